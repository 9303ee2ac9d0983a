/- Part 3 of the proof: Ax7, Ax8, Ax9, Ax10, Ax11, Ax12, Ax13, Ax14, Ax15, Ax16, Ax17, Ax18, Ax19, Ax20, Ax21, Ax22, Ax23. -/
import Derived.Test.YtamgnhdbeecapaaCq2
import Derived.ChangeKeysEq
set_option linter.unusedSimpArgs false
set_option linter.unusedVariables false
namespace Go.Ax
theorem AQ (a b:List AV):yz [] a b=match a with|[]=>(match b with|[]=>some true|_::_=>none)|_::_=>none:=rfl
theorem nW (l:h_) (ls:List h_) (a b:List AV):yz (l::ls) a b=match a with
 |[]=>none
 |x::xs=>match b with
  |[]=>none
  |y::ys=>match D9 l x y with
   |none=>none
   |some u=>match yz ls xs ys with
    |none=>none
    |some c=>some (u&&c):=rfl
theorem sI (l1 l2:List h_):∀(a b:List AV) (r:Bool),yz (l1++l2) a b=some r->∃r1 r2,yz l1 (a.take l1.length) (b.take l1.length)=some r1/\yz l2 (a.drop l1.length) (b.drop l1.length)=some r2/\r=(r1&&r2):=by
 induction l1 with
 |nil=>intro a b r h;exact⟨true,r,by simp [AQ],by simpa using h,by simp⟩
 |cons l ls ih=>
  intro a b r h;rw [List.cons_append,nW] at h;cases a with
  |nil=>cases h
  |cons x xs=>
   cases b with
   |nil=>cases h
   |cons y ys=>
    simp only at h;cases hu:D9 l x y with
    |none=>rw [hu] at h;cases h
    |some u=>
     rw [hu] at h;simp only at h;cases hc:yz (ls++l2) xs ys with
     |none=>rw [hc] at h;cases h
     |some c=>rw [hc] at h;cases h;obtain⟨r1,r2,h1,h2,rfl⟩:=ih xs ys c hc;refine⟨u&&r1,r2,?_,by simpa using h2,by rw [Bool.and_assoc]⟩;simp only [Qa,List.take_succ_cons,nW,hu,h1]
def mz (P:Program) (rec:TypeId->Option (List h_)):List Field->Nat->Option (List h_)
 |[],_=>some []
 |f::fs,k=>bif decide (f.name≠"_")&&Nat.beq f.offset k then match rec f.type with
  |none=>none
  |some ls=>match mz P rec fs (k+ls.length) with
   |none=>none
   |some rest=>some (ls++rest)
  else none
def fW (P:Program):Nat->TypeId->Option (List h_)
 |0,_=>none
 |d+1,t=>match P.underlying t with
  |some (.int _)=>some [.int]
  |some .bool=>some [.bool]
  |some .string=>some [.str]
  |some (.struct fs)=>match mz P (fW P d) fs.toList 0 with
   |none=>none
   |some ls=>bif jf P t ls.length&&!(P.stoodInHeld t) then some ls else none
  |some (.array n e)=>match fW P d e with
   |none=>none
   |some ls=>bif jf P e ls.length&&jf P t (n*ls.length) then some (List.replicate n ls).flatten else none
  |_=>none
section
variable {top:Nat} {P:Program} {φ:fm} {K:Nat->Prop} {h:aW} {nx:Nat} {w:World} {ρ:aH->AV} {ρc:Operand->Value} {o:Oper}
def eJ (φ:fm) (K:Nat->Prop) (w:World) (a:List AV) (xs:Array Value) (off:Nat):Prop:=∀(j:Nat) (x:AV),a[j]?=some x->∃v,xs[off+j]?=some v/\aG φ K w x v
theorem eJ.take {a:List AV} {xs:Array Value} {off n:Nat} (hc:eJ φ K w a xs off):eJ φ K w (a.take n) xs off:=fun j x hx=>hc j x (by
 rw [P0] at hx;split at hx
 ·exact hx
 ·cases hx)
theorem eJ.drop {a:List AV} {xs:Array Value} {off n:Nat} (hc:eJ φ K w a xs off):eJ φ K w (a.drop n) xs (off+n):=fun j x hx=>by obtain⟨v,h1,h2⟩:=hc (n+j) x (by rwa [P3] at hx);exact⟨v,by rw [←h1,Nat.add_assoc],h2⟩
theorem nU {l:h_} {x y:AV} {X Y:Value} {r:Bool} (he:D9 l x y=some r) (hx:aG φ K w x X) (hy:aG φ K w y Y) :
  (l=.int/\∃k a b,X=.int k a/\Y=.int k b/\r=(a == b))\/(l=.bool/\∃a b,X=.bool a/\Y=.bool b/\r=(a == b))\/(l=.str/\∃a b,X=.string a/\Y=.string b/\r=(a == b)):=by
 cases l<;>unfold D9 at he<;>simp only at he
 ·split at he
  ·split at he
   ·rw [cond_eq_ite] at he;split at he
    ·rename_i k n _ k' m hk;cases he;have:=oU hk;subst this;have h1:=c4 hx;have h2:=c4 hy;exact .inl ⟨rfl,k,n,m,h1,h2,by rw [mS,Bool.beq_eq_decide_eq]⟩
    ·cases he
   ·cases he
  ·cases he
 ·split at he
  ·split at he
   ·cases he;exact .inr (.inl ⟨rfl,_,_,dH hx,dH hy,rfl⟩)
   ·cases he
  ·cases he
 ·split at he
  ·split at he
   ·cases he;exact .inr (.inr ⟨rfl,_,_,iG hx,iG hy,rfl⟩)
   ·cases he
  ·cases he
def Iw (P:Program) (φ:fm) (K:Nat->Prop) (w:World) (d:Nat) (t:TypeId) (ls:List h_):Prop:=
 ∀(D:Nat) (xs ys:Array Value) (ox oy:Nat) (a b:List AV) (r:Bool),eJ φ K w a xs ox->eJ φ K w b ys oy->yz ls a b=some r->
  ∃VX VY,(part t xs ox).run P w=.ok VX w/\(part t ys oy).run P w=.ok VY w/\(Op.equalIn (D+d) t VX VY).run P w=.ok r w
theorem qq {ls:List h_}:∀{a b:List AV} {r:Bool},yz ls a b=some r->a.length=ls.length/\b.length=ls.length:=by
 induction ls with
 |nil=>
  intro a b r h;cases a with
  |nil=>cases b with
   |nil=>exact⟨rfl,rfl⟩
   |cons y ys=>cases h
  |cons x xs=>cases h
 |cons l ls ih=>
  intro a b r h;rw [nW] at h;cases a with
  |nil=>cases h
  |cons x xs=>cases b with
   |nil=>cases h
   |cons y ys=>
    simp only at h;cases hu:D9 l x y with
    |none=>rw [hu] at h;cases h
    |some u=>
     rw [hu] at h;simp only at h;cases hc:yz ls xs ys with
     |none=>rw [hc] at h;cases h
     |some c=>obtain⟨h1,h2⟩:=ih hc;simp [h1,h2]
theorem vP {d:Nat} {rec:TypeId->Option (List h_)} (IH:∀t ls,rec t=some ls->Iw P φ K w d t ls) (D:Nat) (xs ys:Array Value):∀(fs:List Field) (k:Nat) (ls:List h_) (a b:List AV) (r:Bool),
  mz P rec fs k=some ls->eJ φ K w a xs k->eJ φ K w b ys k->yz ls a b=some r->(Op.eqFields (D+d) xs ys fs).run P w=.ok r w:=by
 intro fs
 induction fs with
 |nil=>
  intro k ls a b r hl ha hb he;cases hl;cases a with
  |nil=>cases b with
   |nil=>cases he;rfl
   |cons y ys=>cases he
  |cons x xs=>cases he
 |cons f fs ih=>
  intro k ls a b r hl ha hb he;simp only [mz,cond_eq_ite,Qk,Qq,Qn] at hl;split at hl
  ·rename_i hc;obtain⟨hname,rfl⟩:=hc;cases hr1:rec f.type with
   |none=>rw [hr1] at hl;cases hl
   |some l1=>
    rw [hr1] at hl;simp only at hl;cases hr2:mz P rec fs (f.offset+l1.length) with
    |none=>rw [hr2] at hl;cases hl
    |some l2=>
     rw [hr2] at hl;cases hl;obtain⟨r1,r2,e1,e2,rfl⟩:=sI l1 l2 a b r he;obtain⟨VX,VY,p1,p2,p3⟩:=IH _ _ hr1 D xs ys f.offset f.offset _ _ r1 ha.take hb.take e1;have qxb:=ih (f.offset+l1.length) l2 _ _ r2 hr2 ha.drop hb.drop e2;simp only [Op.eqFields,ne_eq,hname,not_false_eq_true,if_true,Sem.run_bind,p1,p2,p3,Result.andThen_ok,Sem.run_ite];cases r1
     ·simp
     ·simpa using qxb
  ·cases hl
theorem xY {d:Nat} {e:TypeId} {l1:List h_} (IH:Iw P φ K w d e l1) (hs:P.cellsOf e=l1.length) (D:Nat) (xs ys:Array Value):∀(n i:Nat) (a b:List AV) (r:Bool),
  eJ φ K w a xs (i*l1.length)->eJ φ K w b ys (i*l1.length)->yz (List.replicate n l1).flatten a b=some r->(Op.eqItems (D+d) e (P.cellsOf e) xs ys (List.range' i n)).run P w=.ok r w:=by
 intro n
 induction n with
 |zero=>
  intro i a b r ha hb he;simp only [List.replicate_zero,List.flatten_nil] at he;cases a with
  |nil=>cases b with
   |nil=>cases he;rfl
   |cons y ys=>cases he
  |cons x xs=>cases he
 |succ n ih=>
  intro i a b r ha hb he;rw [List.replicate_succ,List.flatten_cons] at he;obtain⟨r1,r2,e1,e2,rfl⟩:=sI l1 _ a b r he;obtain⟨VX,VY,p1,p2,p3⟩:=IH D xs ys _ _ _ _ r1 ha.take hb.take e1;have qxb:=ih (i+1) _ _ r2 (by rw [Nat.succ_mul];exact ha.drop) (by rw [Nat.succ_mul];exact hb.drop) e2;rw [List.range'_succ];rw [hs] at qxb ⊢;simp only [Op.eqItems,Sem.run_bind,p1,p2,p3,Result.andThen_ok,Sem.run_ite];cases r1
  ·simp
  ·simpa using qxb
theorem vO:∀(d:Nat) (t:TypeId) (ls:List h_),fW P d t=some ls->Iw P φ K w d t ls
 |0,_,_,hl=>by cases hl
 |d+1,t,ls,hl=>by
  intro D xs ys ox oy a b r ha hb he;simp only [fW] at hl;have Be:∀l:h_,ls=[l]->(∀dd,P.underlying t=some dd->j4 dd=false)->(∃dd,P.underlying t=some dd)->∃x y,a=[x]/\b=[y]/\D9 l x y=some r/\∃X Y,(part t xs ox).run P w=.ok X w/\(part t ys oy).run P w=.ok Y w/\aG φ K w x X/\aG φ K w y Y:=by
   rintro l rfl hag ⟨dd,hdd⟩;obtain⟨h1,h2⟩:=qq he;obtain⟨x,rfl⟩:=List.length_eq_one_iff.1 h1;obtain⟨y,rfl⟩:=List.length_eq_one_iff.1 h2;refine⟨x,y,rfl,rfl,?_,?_⟩
   ·rw [nW] at he;simp only [AQ] at he;cases hu:D9 l x y with
    |none=>rw [hu] at he;cases he
    |some u=>rw [hu] at he;simp at he;rw [he]
   ·obtain⟨X,hX1,hX2⟩:=ha 0 x rfl;obtain⟨Y,hY1,hY2⟩:=hb 0 y rfl;simp only [Nat.add_zero] at hX1 hY1;have:=hag dd hdd;exact⟨X,Y,by simp [part,dc hdd,this,hX1],by simp [part,dc hdd,this,hY1],hX2,hY2⟩
  cases hu:P.underlying t with
  |none=>rw [hu] at hl;cases hl
  |some dd=>
   rw [hu] at hl;cases dd<;>simp only at hl<;>try (cases hl;done)
   case bool=>
    cases hl;obtain⟨x,y,rfl,rfl,e1,X,Y,p1,p2,r1,r2⟩:=Be .bool rfl (fun dd h=>by rw [hu] at h;cases h;rfl) ⟨_,hu⟩;rcases nU e1 r1 r2 with ⟨hh,_⟩|⟨_,a,b,rfl,rfl,rfl⟩|⟨hh,_⟩
    ·cases hh
    ·exact⟨_,_,p1,p2,run_equalIn_bool' w (D+d) t a b hu⟩
    ·cases hh
   case int kk=>
    cases hl;obtain⟨x,y,rfl,rfl,e1,X,Y,p1,p2,r1,r2⟩:=Be .int rfl (fun dd h=>by rw [hu] at h;cases h;rfl) ⟨_,hu⟩;rcases nU e1 r1 r2 with ⟨_,k,a,b,rfl,rfl,rfl⟩|⟨hh,_⟩|⟨hh,_⟩
    ·exact⟨_,_,p1,p2,run_equalIn_int w (D+d) t k kk a b hu⟩
    ·cases hh
    ·cases hh
   case string=>
    cases hl;obtain⟨x,y,rfl,rfl,e1,X,Y,p1,p2,r1,r2⟩:=Be .str rfl (fun dd h=>by rw [hu] at h;cases h;rfl) ⟨_,hu⟩;rcases nU e1 r1 r2 with ⟨hh,_⟩|⟨hh,_⟩|⟨_,a,b,rfl,rfl,rfl⟩
    ·cases hh
    ·cases hh
    ·refine⟨_,_,p1,p2,?_⟩;rw [show D+(d+1)=(D+d)+1 from rfl,run_equalIn_string w (D+d) t a b hu,beq_toListBytes]
   case struct fs=>
    cases hf:mz P (fW P d) fs.toList 0 with
    |none=>rw [hf] at hl;cases hl
    |some l1=>
     rw [hf] at hl;simp only [cond_eq_ite,Qk,Qm] at hl;split at hl
     ·rename_i hc;cases hl;obtain⟨hla,hlb⟩:=qq he;have hsz:=dN hc.1 w;refine⟨.agg (xs.extract ox (ox+ls.length)),.agg (ys.extract oy (oy+ls.length)),by simp [part,dc hu,j4,hsz],by simp [part,dc hu,j4,hsz],?_⟩;have hfo:P.fieldsOf t=fs:=by simp [Program.fieldsOf,hu]
      rw [show D+(d+1)=(D+d)+1 from rfl,run_equalIn_struct w (D+d) t _ _ (by rw [hfo];exact hu) hc.2,hfo];refine vP (fun t ls h=>vO d t ls h) D _ _ fs.toList 0 ls a b r hf (fun j x hx=>?_) (fun j x hx=>?_) he
      ·obtain⟨v,h1,h2⟩:=ha j x hx;have hj:j < ls.length:=by
        rcases Nat.lt_or_ge j a.length with h'|h'
        ·omega
        ·rw [PZ h'] at hx;cases hx
       exact⟨v,by have hlt:=(Array.getElem?_eq_some_iff.1 h1).1;rw [Array.getElem?_extract,if_pos (by omega),←h1];congr 1;omega,h2⟩
      ·obtain⟨v,h1,h2⟩:=hb j x hx;have hj:j < ls.length:=by
        rcases Nat.lt_or_ge j b.length with h'|h'
        ·omega
        ·rw [PZ h'] at hx;cases hx
       exact⟨v,by have hlt:=(Array.getElem?_eq_some_iff.1 h1).1;rw [Array.getElem?_extract,if_pos (by omega),←h1];congr 1;omega,h2⟩
     ·cases hl
   case array n e=>
    cases hf:fW P d e with
    |none=>rw [hf] at hl;cases hl
    |some l1=>
     rw [hf] at hl;simp only [cond_eq_ite,Qk] at hl;split at hl
     ·rename_i hc;cases hl;obtain⟨hla,hlb⟩:=qq he;have hsz:=dN hc.2 w;have hlen:(List.replicate n l1).flatten.length=n*l1.length:=by simp
      rw [hlen] at hla hlb;obtain⟨i,hi,hin⟩:=cS hc.1;rw [Qn] at hin;have hce:P.cellsOf e=l1.length:=by simp [Program.cellsOf,hi,hin]
      refine⟨.agg (xs.extract ox (ox+n*l1.length)),.agg (ys.extract oy (oy+n*l1.length)),by simp [part,dc hu,j4,hsz],by simp [part,dc hu,j4,hsz],?_⟩;rw [show D+(d+1)=(D+d)+1 from rfl,run_equalIn_array w (D+d) _ _ hu hi,List.range_eq_range'];refine xY (vO d e l1 hf) hce D _ _ n 0 a b r (fun j x hx=>?_) (fun j x hx=>?_) he
      ·obtain⟨v,h1,h2⟩:=ha j x hx;have hj:j < n*l1.length:=by
        rcases Nat.lt_or_ge j a.length with h'|h'
        ·omega
        ·rw [PZ h'] at hx;cases hx
       exact⟨v,by have hlt:=(Array.getElem?_eq_some_iff.1 h1).1;rw [Array.getElem?_extract,if_pos (by omega),←h1];congr 1;omega,h2⟩
      ·obtain⟨v,h1,h2⟩:=hb j x hx;have hj:j < n*l1.length:=by
        rcases Nat.lt_or_ge j b.length with h'|h'
        ·omega
        ·rw [PZ h'] at hx;cases hx
       exact⟨v,by have hlt:=(Array.getElem?_eq_some_iff.1 h1).1;rw [Array.getElem?_extract,if_pos (by omega),←h1];congr 1;omega,h2⟩
     ·cases hl
theorem yG {d:Nat} {t:TypeId} {ls:List h_} (hl:fW P d t=some ls) (hag:ek P t j4=true):qy P t (some ls.length)=true:=by
 simp only [qy,hag,Bool.true_and];obtain⟨dd,hu,ha⟩:=aX hag;cases d with
 |zero=>cases hl
 |succ d=>
  simp only [fW,hu] at hl;cases dd<;>simp only at hl<;>try (cases hl;done)
  case struct fs=>
   cases hf:mz P (fW P d) fs.toList 0 with
   |none=>rw [hf] at hl;cases hl
   |some l1=>
    rw [hf] at hl;simp only [cond_eq_ite,Qk] at hl;split at hl
    ·rename_i hc;cases hl;exact hc.1
    ·cases hl
  case array n e=>
   cases hf:fW P d e with
   |none=>rw [hf] at hl;cases hl
   |some l1=>
    rw [hf] at hl;simp only [cond_eq_ite,Qk] at hl;split at hl
    ·rename_i hc;cases hl;simpa using hc.2
    ·cases hl
  all_goals cases ha
theorem BC {d:Nat} {t:TypeId} {ls:List h_} (hl:fW P d t=some ls) (hag:ek P t j4=true) (D:Nat) {a b:List AV} {X Y:Value} {r:Bool} (hx:aG φ K w (.agg a) X) (hy:aG φ K w (.agg b) Y) (he:yz ls a b=some r) :
  (∃xs ys,X=.agg xs/\Y=.agg ys)/\(Op.equalIn (D+d) t X Y).run P w=.ok r w:=by
 obtain⟨xs,rfl,hlx,hrx⟩:=iH hx;obtain⟨ys,rfl,hly,hry⟩:=iH hy;obtain⟨hla,hlb⟩:=qq he;refine⟨⟨_,_,rfl,rfl⟩,?_⟩;obtain⟨VX,VY,p1,p2,p3⟩:=vO d t ls hl D xs ys 0 0 a b r (fun j x hx=>by simpa using (hrx j x hx).2) (fun j x hx=>by simpa using (hry j x hx).2) he;have hv:=yG hl hag;simp only [qy,Qk] at hv;obtain⟨dd,hu,ha⟩:=aX hag;have hs:=dN hv.2 w;simp only [part,Sem.run_bind,dc hu,ha,Result.andThen_ok,if_true,hs,Sem.run_pure,Nat.zero_add] at p1 p2;cases p1;cases p2;rw [←hla,hlx] at p3;rw [←hlx,hla,←hlb,hly] at p3;have e1:xs.extract 0 ys.size=xs:=by rw [show ys.size=xs.size by omega];simp
 have e2:ys.extract 0 ys.size=ys:=by simp
 rwa [e1,e2] at p3
def Bq (P:Program) (t:TypeId):yD->Bool
 |.one .bool=>ek P t fun d=>match d with|.bool=>true|_=>false
 |.one .int=>ek P t fun d=>match d with|.int _=>true|_=>false
 |.one .str=>Cb P t
 |.slice=>ek P t fun d=>match d with|.slice _=>true|_=>false
 |.agg ls=>ek P t j4&&(match fW P 100 t with|some l=>nV l ls|none=>false)&&!(P.eqGuardType P.depth t)
where
 nV:List h_->List h_->Bool
 |[],[]=>true
 |.int::l,.int::m=>nV l m
 |.bool::l,.bool::m=>nV l m
 |.str::l,.str::m=>nV l m
 |_,_=>false
theorem jS:∀{l m:List h_},Bq.nV l m=true->l=m
 |[],[],_=>rfl
 |.int::l,.int::m,h=>by rw [jS (l:=l) (m:=m) h]
 |.bool::l,.bool::m,h=>by rw [jS (l:=l) (m:=m) h]
 |.str::l,.str::m,h=>by rw [jS (l:=l) (m:=m) h]
theorem wL (d:Nat) (t e:TypeId) (hd:P.underlying t=some (.slice e)):(Op.equalIn (d+1) t (.slice none 0 0) (.slice none 0 0)).run P w=.ok true w:=by simp [Op.equalIn,run_underlying hd]
theorem wK (d:Nat) (t e:TypeId) (hd:P.underlying t=some (.slice e)) (ad:Addr) (n c:Nat):(Op.equalIn (d+1) t (.slice none 0 0) (.slice (some ad) n c)).run P w=.ok false w:=by simp [Op.equalIn,run_underlying hd]
theorem wJ (d:Nat) (t e:TypeId) (hd:P.underlying t=some (.slice e)) (ad:Addr) (n c:Nat):(Op.equalIn (d+1) t (.slice (some ad) n c) (.slice none 0 0)).run P w=.ok false w:=by simp [Op.equalIn,run_underlying hd]
theorem D8 (D:Nat) {t:TypeId} {k:yD} (hm:Bq P t k=true) {x y:AV} {X Y:Value} {r:Bool} (he:ES k x y=some r) (hx:aG φ K w x X) (hy:aG φ K w y Y) :
  (Op.equalIn (D+99+1) t X Y).run P w=.ok r w:=by
 cases k with
 |one l=>
  rcases nU he hx hy with ⟨rfl,k,a,b,rfl,rfl,rfl⟩|⟨rfl,a,b,rfl,rfl,rfl⟩|⟨rfl,a,b,rfl,rfl,rfl⟩
  ·obtain⟨d,hd,h1⟩:=aX hm;split at h1
   ·exact run_equalIn_int w (D+99) t _ _ a b hd
   ·cases h1
  ·obtain⟨d,hd,h1⟩:=aX hm;split at h1
   ·exact run_equalIn_bool' w (D+99) t a b hd
   ·cases h1
  ·rw [run_equalIn_string w (D+99) t a b (lz hm),beq_toListBytes]
 |slice=>
  obtain⟨d,hd,h1⟩:=aX hm;split at h1
  ·rename_i e;have hnn:=wL (P:=P) (w:=w) (D+99) t e hd;have hns:=wK (P:=P) (w:=w) (D+99) t e hd;have hsn:=wJ (P:=P) (w:=w) (D+99) t e hd;unfold ES at he;simp only at he;split at he
   ·have h1:=cH hx;split at he
    ·have h2:=cH hy;cases he;subst h1 h2;exact hnn
    ·obtain⟨ad,c',h2,_⟩:=fM hy;cases he;subst h1 h2;exact hns _ _ _
    ·obtain⟨b,base,ad,c',h2,_⟩:=dP hy;cases he;subst h1 h2;exact hns _ _ _
    ·cases he
   ·obtain⟨ad,c',h1,_⟩:=fM hx;split at he
    ·have h2:=cH hy;cases he;subst h1 h2;exact hsn _ _ _
    ·cases he
   ·obtain⟨b,base,ad,c',h1,_⟩:=dP hx;split at he
    ·have h2:=cH hy;cases he;subst h1 h2;exact hsn _ _ _
    ·cases he
   ·cases he
  ·cases h1
 |agg ls=>
  simp only [Bq,Qk] at hm;obtain⟨⟨h1,h2⟩,h3⟩:=hm;split at h2
  ·rename_i l hl;have:=jS h2;subst this;unfold ES at he;simp only at he;split at he
   ·split at he
    ·exact(BC hl h1 D hx hy he).2
    ·cases he
   ·cases he
  ·cases h2
theorem FN {t:TypeId} {k:yD} (hm:Bq P t k=true) {x y:AV} {X Y:Value} {r:Bool} (he:ES k x y=some r) (hx:aG φ K w x X) (hy:aG φ K w y Y) :
  (Op.equal t X Y).run P w=.ok r w:=D8 9900 hm he hx hy
def M7 (P:Program) (o:Oper) (k:yD) (neg:Bool) (x y:aH):Bool:=match o.op with
 |.binOp op t x' y' _=>(match op with|.eql=>!neg|.neq=>neg|_=>false)&&bn x' x&&bn y' y&&Bq P t k&&(match k with|.one .bool=>true|.slice=>true|.agg _=>true|_=>false)
 |_=>false
theorem LR (s:bM top φ K h nx w) (hρ:∀x y,bn x y=true->aG φ K w (ρ y) (ρc x)) {k:yD} {neg:Bool} {x y:aH} (hm:M7 P o k neg x y=true) {p:aO} (hp:Dn ρ k neg x y=some p):Sound top P φ K h nx w ρc o p:=by
 unfold M7 at hm;split at hm
 ·rename_i op t x' y' t' ho;simp only [Qk] at hm;obtain⟨⟨⟨⟨hop,h1⟩,h2⟩,h3⟩,h4⟩:=hm;have hx:=hρ _ _ h1;have hy:=hρ _ _ h2;unfold Dn at hp;split at hp
  ·rename_i r he;cases hp;have hrun:=FN h3 he hx hy;have hform:(eqGuard op t x' y' (ρc x') (ρc y')).run P w=.ok () w/\((binOp .eql t (ρc x') (ρc y')).run P w=.ok (.bool r) w)/\((binOp .neq t (ρc x') (ρc y')).run P w=.ok (.bool !r) w):=by
    cases k with
    |one l=>
     rcases nU he hx hy with ⟨rfl,_⟩|⟨rfl,a,b,hX,hY,rfl⟩|⟨rfl,_⟩
     ·cases h4
     ·rw [hX,hY] at hrun ⊢;exact⟨pS op t x' y' _ _ (.inr (.inr ⟨_,rfl⟩)),by simp [binOp,hrun],by simp [binOp,hrun]⟩
     ·cases h4
    |slice=>
     have hs:(∃ad n c,ρc x'=.slice ad n c)/\(∃ad n c,ρc y'=.slice ad n c):=by
      have key:∀{v:AV} {V:Value},aG φ K w v V->vz v=true->∃ad n c,V=.slice ad n c:=by
       intro v V hr hi;cases v<;>first
        |(cases hi;done)
        |exact⟨_,_,_,cH hr⟩
        |(obtain⟨ad,c',h2,_⟩:=fM hr;exact⟨_,_,_,h2⟩)
        |(obtain⟨b,base,ad,c',h2,_⟩:=dP hr;exact⟨_,_,_,h2⟩)
      have:vz (ρ x)=true/\vz (ρ y)=true:=by
       unfold ES at he;simp only at he;split at he<;>first
        |(split at he<;>first|(simp_all [vz];done)|(cases he;done))
        |(cases he;done)
      exact⟨key hx this.1,key hy this.2⟩
     obtain⟨⟨a1,n1,c1,hX⟩,⟨a2,n2,c2,hY⟩⟩:=hs;rw [hX,hY] at hrun ⊢;exact⟨by cases op<;>simp [eqGuard],by simp [binOp,hrun],by simp [binOp,hrun]⟩
    |agg ls=>
     simp only [Bq,Qk,Qm] at h3;have hag:(∃a,ρ x=.agg a)/\(∃b,ρ y=.agg b):=by
      unfold ES at he;simp only at he;split at he
      ·split at he
       ·rename_i hxe _ _ hye;exact⟨⟨_,hxe⟩,⟨_,hye⟩⟩
       ·cases he
      ·cases he
     obtain⟨⟨a,hxa⟩,⟨b,hyb⟩⟩:=hag;rw [hxa] at hx;rw [hyb] at hy;obtain⟨xs,hX,_⟩:=iH hx;obtain⟨ys,hY,_⟩:=iH hy;rw [hX,hY] at hrun ⊢;exact⟨run_eqGuard_agg w op t x' y' xs ys h3.2,by simp [binOp,hrun],by simp [binOp,hrun]⟩
   obtain⟨hg,hb1,hb2⟩:=hform;cases op<;>simp only [Bool.false_eq_true] at hop
   ·cases neg
    ·refine aL s (V:=.bool r) ?_ (.pure (.bool _));simp only [execOp,ho];refine ep ?_;simp [hg,hb1]
    ·cases hop
   ·cases neg
    ·cases hop
    ·refine aL s (V:=.bool !r) ?_ (.pure (.bool _));simp only [execOp,ho];refine ep ?_;simp [hg,hb2]
  ·cases hp
 ·cases hm
end
end Go.Ax
namespace Go.Ax
theorem vf {α:Type} (l:List α):∀(n k:Nat),k < n*l.length->(List.replicate n l).flatten[k]?=l[k % l.length]?:=by
 intro n
 induction n with
 |zero=>intro k h;simp at h
 |succ n ih=>
  intro k h;rw [List.replicate_succ,List.flatten_cons];rcases Nat.lt_or_ge k l.length with hk|hk
  ·rw [PW hk,Nat.mod_eq_of_lt hk]
  ·rw [PX hk,ih (k - l.length) (by rw [Nat.succ_mul] at h;omega),Nat.mod_eq_sub_mod hk]
theorem rW (z:Array Value) (n k:Nat) (hz:0 < z.size) (hk:k < n):((Array.range n).map (z[·% z.size]!))[k]?=z[k % z.size]?:=by have:k % z.size < z.size:=Nat.mod_lt _ hz;simp [Array.getElem?_map,Array.getElem?_range,hk,this]
theorem Bw (l:List Value):∀(s off:Nat) (cells:Array Value),off+s+l.length<=cells.size->
  (((l.zipIdx s).foldl (fun cs (x:Value×Nat)=>cs.setIfInBounds (off+x.2) x.1) cells).size=cells.size/\
   ∀k,((l.zipIdx s).foldl (fun cs (x:Value×Nat)=>cs.setIfInBounds (off+x.2) x.1) cells)[k]?=if off+s<=k/\k < off+s+l.length then l[k - (off+s)]? else cells[k]?):=by
 induction l with
 |nil=>intro s off cells h;refine⟨rfl,fun k=>?_⟩;rw [if_neg (fun hc=>by simp only [List.length_nil] at hc;omega)];rfl
 |cons v l ih=>
  intro s off cells h;simp only [Qa] at h;obtain⟨h1,h2⟩:=ih (s+1) off (cells.setIfInBounds (off+s) v) (by simp;omega);simp only [List.zipIdx_cons,List.foldl_cons];refine⟨by rw [h1];simp,fun k=>?_⟩;rw [h2 k];by_cases hk:k=off+s
  ·subst hk;rw [if_neg (by omega),if_pos (by simp only [Qa];omega),Array.getElem?_setIfInBounds_self_of_lt (by omega)];simp
  ·rw [Array.getElem?_setIfInBounds_ne (by omega)];by_cases hin:off+(s+1)<=k/\k < off+(s+1)+l.length
   ·rw [if_pos hin,if_pos (by simp only [Qa];omega)];rw [show k - (off+s)=(k - (off+(s+1)))+1 by omega];simp
   ·rw [if_neg hin,if_neg (by simp only [Qa];omega)]
section
variable {top:Nat} {P:Program} {φ:fm} {K:Nat->Prop} {h:aW} {nx:Nat} {w:World} {ρ:aH->AV} {ρc:Operand->Value} {o:Oper}
def aU (φ:fm) (K:Nat->Prop) (w:World) (cs:List AV) (c:Array Value):Prop:=cs.length=c.size/\∀(j:Nat) (a:AV),cs[j]?=some a->a.one=true/\∃v,c[j]?=some v/\aG φ K w a v
theorem lO (ρ:aH->AV) (p:Nat×Nat×aH) (parts:List (Nat×Nat×aH)) (cells:List AV):fill ρ (p::parts) cells=match (ρ p.2.2).cells? with
 |none=>none
 |some cs=>bif Nat.beq cs.length p.2.1 then match cO cells p.1 cs with
   |some cells=>fill ρ parts cells
   |none=>none
  else none:=rfl
def oH (place:Nat->Nat->Nat->Bool):List (Nat×Operand)->List (Nat×Nat×aH)->Bool
 |[],[]=>true
 |(i,x')::l,(off,sz,x)::m=>place i off sz&&bn x' x&&oH place l m
 |_,_=>false
theorem nS {place:Nat->Nat->Nat->Bool} {pl:Nat->Option (Nat×Nat)} (hpl:∀i off sz,place i off sz=true->pl i=some (off,sz)) :
  ∀(parts':List (Nat×Operand)) (parts:List (Nat×Nat×aH)) (cells cells':List AV) (c:Array Value),(∀x y,y∈parts.map (·.2.2)->bn x y=true->aG φ K w (ρ y) (ρc x))->oH place parts' parts=true->fill ρ parts cells=some cells'->aU φ K w cells c->
   ∃c',Instr.fill pl c (parts'.map fun p=>(p.1,ρc p.2))=some c'/\aU φ K w cells' c'
 |[],[],cells,cells',c,_,_,hf,hc=>by cases hf;exact⟨c,rfl,hc⟩
 |[],_::_,_,_,_,_,hm,_,_=>by cases hm
 |_::_,[],_,_,_,_,hm,_,_=>by cases hm
 |(i,x')::l,(off,sz,x)::m,cells,cells',c,hρ,hm,hf,hc=>by
  simp only [oH,Qk] at hm;obtain⟨⟨h1,h2⟩,h3⟩:=hm;have hr:=hρ _ _ (by simp) h2;have hp:=hpl _ _ _ h1;rw [lO] at hf;simp only at hf;split at hf
  ·cases hf
  ·rename_i cs hcs;simp only [cond_eq_ite,Qn] at hf;split at hf
   ·rename_i hsz;split at hf
    ·rename_i qxw hov;obtain⟨hl,hrr⟩:=ou hr hcs;obtain⟨ho1,ho2⟩:=dG hov;have hof:=(cP hov).1;have hcl:(ρc x').cells.toList.length=cs.length:=by simp [hl]
     obtain⟨f1,f2⟩:=Bw (ρc x').cells.toList 0 off c (by rw [hcl,←hc.1];omega);simp only [List.map_cons,Instr.fill,hp];rw [if_neg (by rw [←hc.1,←hl];simp only [ne_eq,hsz,not_true_eq_false,Ql,Qq,decide_false,Bool.false_eq_true,false_or];omega)];have qz7:(ρc x').cells.zipIdx.foldl (fun cs (x:Value×Nat)=>cs.setIfInBounds (off+x.2) x.1) c=(((ρc x').cells.toList.zipIdx 0).foldl (fun cs (x:Value×Nat)=>cs.setIfInBounds (off+x.2) x.1) c):=by rw [←Array.foldl_toList,Array.toList_zipIdx]
     refine nS hpl l m qxw cells' _ (fun x y hy=>hρ x y (by rw [List.map_cons];exact Qd _ hy)) h3 hf ⟨?_,fun j a ha=>?_⟩
     ·show qxw.length=((ρc x').cells.zipIdx.foldl (fun cs (x:Value×Nat)=>cs.setIfInBounds (off+x.2) x.1) c).size;rw [qz7,f1,ho1,hc.1]
     ·show a.one=true/\∃v,((ρc x').cells.zipIdx.foldl (fun cs (x:Value×Nat)=>cs.setIfInBounds (off+x.2) x.1) c)[j]?=some v/\_;rw [qz7,f2 j];rw [ho2 j] at ha;simp only [Nat.add_zero,hcl];by_cases hin:off<=j/\j < off+cs.length
      ·rw [if_pos hin] at ha ⊢;obtain⟨r1,v,r2,r3⟩:=hrr _ a ha;exact⟨r1,v,by rw [Array.getElem?_toList];exact r2,r3⟩
      ·rw [if_neg hin] at ha ⊢;exact hc.2 j a ha
    ·cases hf
   ·cases hf
theorem yX (fs:List Field) (hs:∀f∈fs,(P.info? f.type).isSome=true):(fs.mapM fun f=>(do pure (f.offset,←sizeOf f.type):Sem (Nat×Nat))).run P w=.ok (fs.map fun f=>(f.offset,P.cellsOf f.type)) w:=by
 induction fs with
 |nil=>simp
 |cons f fs ih=>obtain⟨i,hi⟩:=Option.isSome_iff_exists.1 (hs f (by simp));have ih':=ih (fun g hg=>hs g (by simp [hg]));simp only [List.mapM_cons,Sem.run_bind,Sem.run_pure,Result.andThen_ok,run_sizeOf w hi] at ih' ⊢;rw [ih'];simp
def zh (P:Program) (o:Oper) (zero:List AV) (parts:List (Nat×Nat×aH)):Bool:=match o.op with
 |.build t ps=>rX P t zero&&(match P.underlying t with
  |some (.struct fs)=>(fs.toList.all fun f=>(P.info? f.type).isSome)&&oH (fun i off sz=>match fs[i]? with|some f=>Nat.beq f.offset off&&jf P f.type sz|none=>false) ps.toList parts
  |some (.array _ e)=>(match P.info? e with|some ie=>oH (fun i off sz=>Nat.beq off (i*ie.size)&&Nat.beq sz ie.size) ps.toList parts|none=>false)
  |_=>false)
 |_=>false
theorem Fg (s:bM top φ K h nx w) (hρ:∀x y,bn x y=true->aG φ K w (ρ y) (ρc x)) {zero:List AV} {parts:List (Nat×Nat×aH)} (hm:zh P o zero parts=true) {p:aO} (hp:jJ ρ zero parts=some p):Sound top P φ K h nx w ρc o p:=by
 unfold zh at hm;split at hm
 ·rename_i t ps ho;simp only [Qk] at hm;obtain⟨h1,h2⟩:=hm;obtain⟨z,hz,_,hzl,hzr⟩:=lG h1 K w;have hcz:aU φ K w zero z.cells:=⟨hzl,fun j a ha=>⟨(hzr j a ha).1,let ⟨v,a1,a2⟩:=(hzr j a ha).2;⟨v,a1,.pure a2⟩⟩⟩;unfold jJ at hp;split at hp
  ·rename_i cs hf;cases hp;have hps:(ps.map fun (x:Nat×Operand)=>(x.1,ρc x.2)).toList=ps.toList.map fun p=>(p.1,ρc p.2):=by simp
   split at h2
   ·rename_i fs hu;simp only [Qk,Qj] at h2;obtain⟨c',hc1,hc2⟩:=nS (ρ:=ρ) (ρc:=ρc) (pl:=fun i=>(fs.map fun f=>(f.offset,P.cellsOf f.type))[i]?) (fun i off sz hpl=>by
     split at hpl
     ·rename_i f hff;simp only [Qk,Qn] at hpl;obtain⟨ii,hii,hsz⟩:=cS hpl.2;rw [Qn] at hsz;simp [hff,hpl.1,Program.cellsOf,hii,hsz]
     ·cases hpl) ps.toList parts zero cs z.cells (fun x y _=>hρ x y) h2.2 hf hcz
    refine aL s (V:=.agg c') ?_ (.agg _ _ hc2.1 (fun j a ha=>(hc2.2 j a ha).1) (fun j a v ha hv=>?_))
    ·simp only [execOp,ho];refine ep ?_;have hpr:=yX (P:=P) (w:=w) fs.toList h2.1;have qw0:(fs.mapM fun f=>(do pure (f.offset,←sizeOf f.type):Sem (Nat×Nat))).run P w=.ok (fs.map fun f=>(f.offset,P.cellsOf f.type)) w:=by rw [Array.mapM_eq_mapM_toList,Sem.run_map,hpr,Result.andThen_ok];congr 1;apply Array.ext';simp
     have qzm:Instr.fill (fun x=>((fs.map fun f=>(f.offset,P.cellsOf f.type))[x]?:Option (Nat×Nat))) z.cells (ps.map fun (x:Nat×Operand)=>(x.1,ρc x.2)).toList=some c':=by rw [hps];exact hc1
     simp only [Instr.build,Sem.run_bind,hz,Result.andThen_ok,run_underlying hu,qw0,qzm];rfl
    ·obtain⟨_,v',r1,r2⟩:=hc2.2 j a ha;rw [r1] at hv;cases hv;exact r2
   ·rename_i n e hu;split at h2
    ·rename_i ie hie;obtain⟨c',hc1,hc2⟩:=nS (ρ:=ρ) (ρc:=ρc) (pl:=fun i=>some (i*P.cellsOf e,P.cellsOf e)) (fun i off sz hpl=>by simp only [Qk,Qn] at hpl;simp [hpl.1,hpl.2,Program.cellsOf,hie]) ps.toList parts zero cs z.cells (fun x y _=>hρ x y) h2 hf hcz
     refine aL s (V:=.agg c') ?_ (.agg _ _ hc2.1 (fun j a ha=>(hc2.2 j a ha).1) (fun j a v ha hv=>?_))
     ·simp only [execOp,ho];refine ep ?_;have qzm:Instr.fill (fun i=>some (i*P.cellsOf e,P.cellsOf e)) z.cells (ps.map fun (x:Nat×Operand)=>(x.1,ρc x.2)).toList=some c':=by rw [hps];exact hc1
      simp only [Instr.build,Sem.run_bind,hz,Result.andThen_ok,run_underlying hu,run_sizeOf w hie,qzm];rfl
     ·obtain⟨_,v',r1,r2⟩:=hc2.2 j a ha;rw [r1] at hv;cases hv;exact r2
    ·cases h2
   ·cases h2
  ·cases hp
 ·cases hm
def Bp (P:Program) (o:Oper) (es len:Nat) (zero:List AV) (parts:List (Nat×Nat×aH)):Bool:=match o.op with
 |.buildSlice t n ps=>Nat.beq n len&&(match P.underlying t with
  |some (.slice e)=>(match P.info? e with
   |some ie=>Nat.beq ie.size es&&Nat.ble (n*es) 16777216&&oH (fun i off sz=>Nat.beq off (i*ie.size)&&Nat.beq sz ie.size) ps.toList parts&&(match ie.zero with
    |some z=>Nat.beq z.cells.size es&&Nat.blt 0 es&&uh (List.replicate n z.cells.toList).flatten zero
    |none=>false)
   |none=>false)
  |_=>false)
 |_=>false
theorem Aq (s:bM top φ K h nx w) {es len:Nat} {zero cs:List AV} {parts:List (Nat×Nat×aH)} (hρ:∀x y,y∈parts.map (·.2.2)->bn x y=true->aG φ K w (ρ y) (ρc x)) (hm:Bp P o es len zero parts=true) (hf:fill ρ parts zero=some cs) :
  ∃(c:Array Value) (e:TypeId),(execOp ρc o).run P w=.ok (.value (.slice (some ⟨w.heap.size,0,none⟩) len len)) (w.alloc (.cells c e))/\aU φ K w cs c/\c.size=len*es:=by
 unfold Bp at hm;split at hm
 ·rename_i t n ps ho;simp only [Qk,Qn] at hm;obtain⟨rfl,hm⟩:=hm;split at hm
  ·rename_i e hu;split at hm
   ·rename_i ie hie;simp only [Qk,Qn,Qo] at hm;obtain⟨⟨⟨rfl,hsm⟩,hps⟩,hm⟩:=hm;split at hm
    ·rename_i z hz;simp only [Qk,Qn,Qp] at hm;obtain⟨⟨hzs,hpos⟩,qjR⟩:=hm;obtain⟨v1,v2,_⟩:=ug qjR K w;have hsz:=run_sizeOf w hie;have hce:P.cellsOf e=ie.size:=by simp [Program.cellsOf,hie]
     have hzv:(zeroValue e).run P w=.ok z w:=by simp [zeroValue,typeInfo,hie,hz]
     have hlen:(List.replicate n z.cells.toList).flatten.length=n*ie.size:=by simp [hzs]
     have hcz:aU φ K w zero ((Array.range (n*ie.size)).map (z.cells[·% z.cells.size]!)):=by
      refine⟨by rw [v1,hlen];simp,fun j a ha=>?_⟩;obtain⟨r1,v,r2,r3⟩:=v2 j a ha;have hj:j < n*ie.size:=by
       rcases Nat.lt_or_ge j zero.length with h'|h'
       ·omega
       ·rw [PZ h'] at ha;cases ha
      rw [vf _ n j (by simpa [hzs] using hj)] at r2;exact⟨r1,v,by rw [rW _ _ _ (by omega) hj];simpa using r2,.pure r3⟩
     obtain⟨c',hc1,hc2⟩:=nS (ρ:=ρ) (ρc:=ρc) (pl:=fun i=>some (i*P.cellsOf e,P.cellsOf e)) (fun i off sz hpl=>by simp only [Qk,Qn] at hpl;simp [hpl.1,hpl.2,hce]) ps.toList parts zero cs _ hρ hps hf hcz
     have hcs:c'.size=n*ie.size:=by
      have hl:∀(parts:List (Nat×Nat×aH)) (cells cells':List AV),fill ρ parts cells=some cells'->cells'.length=cells.length:=by
       intro parts
       induction parts with
       |nil=>intro cells cells' hh;cases hh;rfl
       |cons p parts ih=>
        intro cells cells' hh;rw [lO] at hh;split at hh
        ·cases hh
        ·simp only [cond_eq_ite] at hh;split at hh
         ·split at hh
          ·rename_i hov;rw [ih _ _ hh,(dG hov).1]
          ·cases hh
         ·cases hh
      rw [←hc2.1,hl _ _ _ hf,v1,hlen]
     have qwZ:(ps.map fun (x:Nat×Operand)=>(x.1,ρc x.2)).toList=ps.toList.map fun p=>(p.1,ρc p.2):=by simp
     refine⟨c',e,?_,hc2,hcs⟩;simp only [execOp,ho];refine ep ?_;have h24:¬(n*P.cellsOf e > 2 ^ 24):=by rw [hce];omega
     have qzm:Instr.fill (fun i=>some (i*P.cellsOf e,P.cellsOf e)) ((Array.range (n*P.cellsOf e)).map (z.cells[·% z.cells.size]!)) (ps.map fun (x:Nat×Operand)=>(x.1,ρc x.2)).toList=some c':=by rw [qwZ,hce];rw [hce] at hc1;exact hc1
     simp only [Instr.buildSlice,Sem.run_bind,run_underlying hu,Result.andThen_ok,hsz,if_neg h24];by_cases hn0:n*P.cellsOf e=0
     ·have hn:n=0:=by
       rw [hce] at hn0;rcases Nat.mul_eq_zero.1 hn0 with h0|h0
       ·exact h0
       ·omega
      subst hn;have e0:Array.range (0*P.cellsOf e)=#[]:=by rw [Nat.zero_mul];rfl
      rw [e0,Array.map_empty] at qzm;rw [if_pos hn0,e0];simp only [Sem.run_pure,Result.andThen_ok,Array.map_empty,qzm,Sem.run_bind,newRow,run_newObj];rfl
     ·simp only [if_neg hn0,Sem.run_bind,hzv,Result.andThen_ok,Sem.run_pure,qzm];simp [newRow]
    ·cases hm
   ·cases hm
  ·cases hm
 ·cases hm
theorem Cu (s:bM top φ K h nx w) (hρ:∀x y,bn x y=true->aG φ K w (ρ y) (ρc x)) {es len:Nat} {zero:List AV} {parts:List (Nat×Nat×aH)} (hm:Bp P o es len zero parts=true) {p:aO} (hp:iK ρ es len zero parts=some p):Sound top P φ K h nx w ρc o p:=by
 unfold iK at hp;split at hp
 ·rename_i cs hf;cases hp;obtain⟨c,e,h1,h2,h3⟩:=Aq s (fun x y _=>hρ x y) hm hf;refine lB s _ cs c e _ h1 (by rw [h2.1];exact Qy _) h2.2 ?_;exact .ref nx 0 0 es len len false w.heap.size 0 ⟨w.heap.size,0,none⟩ len (by simp) (Qy _) (Qy _) (fun h=>by cases h) (fun _=>⟨rfl,c,e,(0,0),jw w _,by omega⟩)
 ·cases hp
theorem sF {a:AV} {v:Value} (hf:a.flat=true) (r:aG φ K w a v):dL K w a v:=by
 cases r with
 |pure r=>exact r
 |ptr=>cases hf
 |ref=>cases hf
 |agg=>cases hf
 |dM=>cases hf
 |j5=>cases hf
theorem zp (s:bM top φ K h nx w) (c0:Array Value) (e0:TypeId):cq top φ K h nx w φ (fun b=>K b\/b=w.heap.size) h nx (w.alloc (.cells c0 e0)):=by
 generalize hob:Obj.cells c0 e0=ob;have hsame:∀b,b < w.heap.size->(w.alloc ob).heap[b]?=w.heap[b]?:=fun b hb=>o8 w _ hb
 have qxl:∀(b:Nat) (c0:Array Value) (e0:TypeId) (fr:Nat×Nat),w.heap[b]?=some (Obj.cells c0 e0 fr)->∃c':Array Value,(w.alloc ob).heap[b]?=some (Obj.cells c' e0 fr)/\c'.size=c0.size:=by intro b c0 e0 fr hb;exact⟨c0,by rw [hsame b (Array.getElem?_eq_some_iff.1 hb).1];exact hb,rfl⟩
 have hval:∀{a:AV} {v:Value},aG φ K w a v->aG φ (fun b=>K b\/b=w.heap.size) (w.alloc ob) a v:=fun r=>aG.keep (fun _ _ _ h=>h) (fun _ h=>.inl h) (fun b hb=>hsame b (s.j8 b hb).1) qxl r
 have qzh:∀b,s_ φ h b->b < w.heap.size:=fun b ⟨id,ob',base,h1,h2⟩=>ew s h1 h2
 refine⟨fun _ _ _ h=>h,fun _ h=>.inl h,⟨fun b hb=>?_,fun id g cells hh=>?_,fun id es hh=>?_,s.inj,s.low,s.new⟩,⟨by rw [World.size_alloc];omega,fun b hb _=>hsame b hb,qxl,rfl,rfl,rfl,fun a=>by rw [←hob];exact RowKit.frozen?_alloc_cells w c0 e0 a⟩,fun b hb=>.inl hb,fun b hb=>?_,fun _ _ _ h=>.inl h,fun _ h=>.inl h,Qy _⟩
 ·rw [World.size_alloc];rcases hb with hb|rfl
  ·exact⟨Nat.lt_succ_of_lt (s.j8 b hb).1,(s.j8 b hb).2⟩
  ·exact⟨Nat.lt_succ_self _,fun hm=>Nat.lt_irrefl _ (qzh _ hm)⟩
 ·obtain⟨b,base,c,e,h1,h2,h3,h4⟩:=s.row id g cells hh;refine⟨b,base,c,e,h1,by rw [hsame b (Array.getElem?_eq_some_iff.1 h2).1];exact h2,h3,fun j a ha=>⟨(h4 j a ha).1,?_⟩⟩;obtain⟨v,hv1,hv2⟩:=(h4 j a ha).2;exact⟨v,hv1,hval hv2⟩
 ·obtain⟨b,mes,clk,h1,h2,h3,h4⟩:=s.map id es hh;refine⟨b,mes,clk,h1,by rw [hsame b (Array.getElem?_eq_some_iff.1 h2).1];exact h2,h3,fun j k v hj=>?_⟩;obtain⟨me,m1,m2,m3⟩:=h4 j k v hj;exact⟨me,m1,hval m2,hval m3⟩
 ·rcases hb with hb|rfl
  ·exact .inl hb
  ·exact .inr (.inl (Qy _))
theorem wG (s:bM top φ K h nx w) {es len:Nat} {zero:List AV} {parts:List (Nat×Nat×aH)} (hρ:∀x y,y∈parts.map (·.2.2)->bn x y=true->aG φ K w (ρ y) (ρc x)) (hm:Bp P o es len zero parts=true) {p:aO} (hp:c5 ρ len zero parts=some p):Sound top P φ K h nx w ρc o p:=by
 unfold c5 at hp;split at hp
 ·rename_i cs hf;rw [cond_eq_ite] at hp;split at hp
  ·rename_i qz8;rw [aJ] at qz8;cases hp;obtain⟨c,e,h1,h2,h3⟩:=Aq s hρ hm hf;intro v h' nx' hr qxo;cases hr;have hg:=zp s c e;refine⟨_,_,φ,_,.inl h1,hg,.pure ?_⟩;refine .b6 cs len (some len) ⟨w.heap.size,0,none⟩ len (fun j=>c.getD j undef) (fun _=>⟨rfl,.inr rfl⟩) (Qy _) (fun c hc=>by cases hc;rfl) (fun j a ha=>(h2.2 j a ha).1) (fun j hj=>?_) (fun j a ha=>?_)
   ·have hj':j < c.size:=by rw [←h2.1];exact hj
    simp [Array.getElem?_eq_getElem hj']
   ·obtain⟨_,v,r1,r2⟩:=h2.2 j a ha;have hj':j < c.size:=(Array.getElem?_eq_some_iff.1 r1).1;have hv:c.getD j undef=v:=by rw [Array.getElem?_eq_getElem hj'] at r1;simp [hj'];exact Qv r1
    rw [hv];exact sF (qz8 a (P4 ha)) (hg.val s r2)
  ·cases hp
 ·cases hp
theorem lS (hρ:∀x y,bn x y=true->aG φ K w (ρ y) (ρc x)) {x':Option Operand} {x:Option aH} (hm:qa x' x=true) {other y n:Nat} (hb:AZ ρ x other y=some n) (code:BoundsCode) :
  (x=none/\x'=none/\n=other)\/(∃X,x'.map ρc=some X/\n<=y/\x.isSome=true/\∀y',n<=y'->∀code,(Instr.sliceBound X y' code).run P w=.ok n w):=by
 cases x with
 |none=>cases x' with
  |none=>cases hb;exact .inl ⟨rfl,rfl,rfl⟩
  |some x'=>cases hm
 |some x=>cases x' with
  |none=>cases hm
  |some x'=>
   right;have hr:=hρ _ _ hm;unfold AZ at hb;simp only at hb;split at hb
   ·rename_i k i hx;obtain⟨rfl,hle⟩:=n6 hb;rw [hx] at hr;have hX:=c4 hr;refine⟨ρc x',rfl,hle,rfl,fun y' hy' code=>?_⟩;simp [Instr.sliceBound,hX,asIntOf,hy']
   ·cases hb
def g_ (mx:Option aH) (c' m:Nat):Nat:=match mx with|none=>c'|some _=>m
theorem Az (c:Prop) [Decidable c] (a b:Addr):(if c then some a else (some b:Option Addr))=some (if c then a else b):=by split<;>rfl
theorem yf (mx:Option aH) {c' m:Nat} (h:m<=c'):m<=g_ mx c' m/\g_ mx c' m<=c':=by cases mx<;>simp [g_,h]
theorem uS {ρ:aH->AV} {lo hi:Option aH} {len cap l hh m:Nat} (h:jd ρ lo hi none len cap=some (l,hh,m)):m=cap:=by
 unfold jd at h;simp only [AZ] at h
 repeat' (split at h<;>try cases h)
 all_goals first|rfl|(cases h;rfl)|skip
theorem k5 (hρ:∀x y,bn x y=true->aG φ K w (ρ y) (ρc x)) {lo' hi' mx':Option Operand} {lo hi mx:Option aH} (h1:qa lo' lo=true) (h2:qa hi' hi=true) (h3:qa mx' mx=true) {len cap cap' l hh m:Nat}
  (hb:jd ρ lo hi mx len cap=some (l,hh,m)) (hcc:cap<=cap') (hlc:len<=cap) (hhi:mx.isSome=true->hi.isSome=true) (isSlice:Bool) :
  (Instr.sliceBounds isSlice len cap' (lo'.map ρc) (hi'.map ρc) (mx'.map ρc)).run P w=.ok (l,hh,g_ mx cap' m) w/\l<=hh/\hh<=m/\m<=cap:=by
 unfold jd at hb;split at hb
 ·cases hb
 ·rename_i m0 hm0;split at hb
  ·cases hb
  ·rename_i h0 hh0;split at hb
   ·cases hb
   ·rename_i l0 hl0;cases hb;rcases lS (P:=P) hρ h3 hm0 .index with ⟨rfl,rfl,rfl⟩|⟨M,eM,hM,hMs,rM⟩
    ·rcases lS (P:=P) hρ h2 hh0 .index with ⟨rfl,rfl,rfl⟩|⟨Hh,eH,hH,_,rH⟩
     ·rcases lS (P:=P) hρ h1 hl0 .index with ⟨rfl,rfl,rfl⟩|⟨Lo,eL,hL,_,rL⟩
      ·exact⟨by simp [Instr.sliceBounds,g_],by omega,by omega,by omega⟩
      ·refine⟨?_,by omega,by omega,by omega⟩;simp only [Instr.sliceBounds,g_,Option.map_none,eL,Sem.run_bind,Sem.run_pure,Result.andThen_ok,rL _ hL]
     ·rcases lS (P:=P) hρ h1 hl0 .index with ⟨rfl,rfl,rfl⟩|⟨Lo,eL,hL,_,rL⟩
      ·refine⟨?_,by omega,by omega,by omega⟩;simp only [Instr.sliceBounds,g_,Option.map_none,eH,Sem.run_bind,Sem.run_pure,Result.andThen_ok,rH cap' (by omega)]
      ·refine⟨?_,by omega,by omega,by omega⟩;simp only [Instr.sliceBounds,g_,Option.map_none,eH,eL,Sem.run_bind,Sem.run_pure,Result.andThen_ok,rH cap' (by omega),rL _ hL]
    ·obtain⟨mx,rfl⟩:=Option.isSome_iff_exists.1 hMs;rcases lS (P:=P) hρ h2 hh0 .index with ⟨rfl,rfl,rfl⟩|⟨Hh,eH,hH,_,rH⟩
     ·exact absurd (hhi rfl) (by simp)
     ·rcases lS (P:=P) hρ h1 hl0 .index with ⟨rfl,rfl,rfl⟩|⟨Lo,eL,hL,_,rL⟩
      ·refine⟨?_,by omega,by omega,by omega⟩;simp only [Instr.sliceBounds,g_,Option.map_none,eM,eH,Sem.run_bind,Sem.run_pure,Result.andThen_ok,rM cap' (by omega),rH _ hH]
      ·refine⟨?_,by omega,by omega,by omega⟩;simp only [Instr.sliceBounds,g_,eM,eH,eL,Sem.run_bind,Sem.run_pure,Result.andThen_ok,rM cap' (by omega),rH _ hH,rL _ hL]
def zb (P:Program) (o:Oper) (x:aH) (lo hi:Option aH):Bool:=match o.op with
 |.slice t x' lo' hi' none=>bn x' x&&qa lo' lo&&qa hi' hi&&Cb P t
 |_=>false
theorem Fa (s:bM top φ K h nx w) (hρ:∀x y,bn x y=true->aG φ K w (ρ y) (ρc x)) {x:aH} {lo hi:Option aH} (hm:zb P o x lo hi=true) {p:aO} (hp:ku ρ x lo hi=some p):Sound top P φ K h nx w ρc o p:=by
 unfold zb at hm;split at hm
 ·rename_i t x' lo' hi' ho;simp only [Qk] at hm;obtain⟨⟨⟨h1,h2⟩,h3⟩,h4⟩:=hm;have hu:=lz h4;have hr:=hρ _ _ h1;unfold ku at hp;split at hp
  ·rename_i q hx;split at hp
   ·cases hp
   ·rename_i l hh m hb;cases hp;rw [hx] at hr;have hX:=iG hr;obtain⟨hrun,_⟩:=k5 (P:=P) (w:=w) hρ (mx':=none) (mx:=none) h2 h3 rfl hb (Qy _) (Qy _) (fun h=>by cases h) false;refine aL s (V:=.string (q.extract l hh)) ?_ (.pure (.str _));simp only [execOp,ho];refine ep ?_;simp only [Option.map_none] at hrun;simp [Instr.sliceAt,run_underlying hu,Instr.slice,hX,hrun]
  ·cases hp
 ·cases hm
def DF (P:Program) (o:Oper) (es:Nat) (x:aH) (lo hi mx:Option aH):Bool:=match o.op with
 |.slice t x' lo' hi' mx'=>bn x' x&&qa lo' lo&&qa hi' hi&&qa mx' mx&&z8 P t es&&(match mx with|none=>true|some _=>hi.isSome)
 |_=>false
theorem GY (s:bM top φ K h nx w) (hρ:∀x y,bn x y=true->aG φ K w (ρ y) (ρc x)) {es:Nat} {x:aH} {lo hi mx:Option aH} (hm:DF P o es x lo hi mx=true) {p:aO} (hp:dI (yN es ρ (ρ x) lo hi mx)=some p):Sound top P φ K h nx w ρc o p:=by
 unfold DF at hm;split at hm
 ·rename_i t x' lo' hi' mx' ho;simp only [Qk] at hm;obtain⟨⟨⟨⟨⟨h1,h2⟩,h3⟩,h4⟩,h5⟩,h6⟩:=hm;obtain⟨e,hu,hs⟩:=mE h5;have hr:=hρ _ _ h1;have hhi:mx.isSome=true->hi.isSome=true:=by intro tf;obtain⟨q,rfl⟩:=Option.isSome_iff_exists.1 tf;exact h6
  obtain⟨v,hv,rfl⟩:=dw hp;have hex:∀V,(Instr.slice t (ρc x') (lo'.map ρc) (hi'.map ρc) (mx'.map ρc)).run P w=.ok V w->(execOp ρc o).run P w=.ok (.value V) w:=by intro V hV;simp only [execOp,ho];refine ep ?_;simp only [Instr.sliceAt,Sem.run_bind,run_underlying hu,Result.andThen_ok];exact hV
  have hsl:∀(a:Option Addr) (len c' l hh m:Nat),ρc x'=.slice a len c'->(Instr.sliceBounds true len c' (lo'.map ρc) (hi'.map ρc) (mx'.map ρc)).run P w=.ok (l,hh,m) w->
    (Instr.slice t (ρc x') (lo'.map ρc) (hi'.map ρc) (mx'.map ρc)).run P w=.ok (.slice (if m=l then a else a.map (·.add (l*es))) (hh - l) (m - l)) w:=by
   intro a len c' l hh m hX hb;simp [Instr.slice,hX,run_underlying hu,hb,dN hs]
  unfold yN at hv;split at hv
  ·rename_i hx;rw [hx] at hr;have hX:=cH hr;split at hv
   ·cases hv
   ·rename_i q hb;cases hv;obtain⟨l,hh,m⟩:=q;obtain⟨hrun,hl1,hl2,hl3⟩:=k5 (P:=P) (w:=w) hρ h2 h3 h4 hb (Qy 0) (Qy 0) hhi true;have hm0:m=0:=by omega
    have hh0:hh=0:=by omega
    have hl0:l=0:=by omega
    subst hm0 hh0 hl0;have qjX:(Instr.sliceBounds true 0 0 (lo'.map ρc) (hi'.map ρc) (mx'.map ρc)).run P w=.ok (0,0,0) w:=by rw [hrun];cases mx<;>rfl
    refine aL s (V:=.slice none 0 0) (hex _ ?_) (.pure .ak);rw [hsl none 0 0 0 0 0 hX qjX];simp
  ·rename_i cs n cap hx;simp only [cond_eq_ite,Qn] at hv;split at hv
   ·rename_i hn;split at hv
    ·cases hv
    ·rename_i l hh m hb;split at hv
     ·rename_i cs' qxi;cases hv;rw [hx] at hr;obtain⟨ad,c',hX,hnc,hcap,qzd,_,hsub⟩:=wS hr;obtain⟨hrun,hl1,hl2,hl3⟩:=k5 (P:=P) (w:=w) hρ h2 h3 h4 hb hnc (Qy n) hhi true;obtain⟨hcl,hat⟩:=vR qxi;refine aL s (hex _ (hsl (some ad) n c' l hh _ hX hrun)) (.pure ?_);rw [Option.map_some,Az];have hml:=yf mx (c':=c') (m:=m) (by omega);refine hsub cs' (l*es) (hh - l) _ _ _ (fun j=>?_) (fun hne=>?_) (fun hne=>?_) (by omega) (fun c hc=>?_)
      ·split
       ·exact hat j (by omega)
       ·exact PZ (by omega)
      ·have hlt:l < hh:=by
        rcases Nat.lt_or_ge l hh with h'|h'
        ·exact h'
        ·exfalso;apply hne;apply List.eq_nil_of_length_eq_zero;rw [hcl];simp only [Nat.mul_eq,Nat.sub_eq];rw [show hh - l=0 by omega,Nat.zero_mul]
       have qxP:cs≠[]:=by rintro rfl;have:=(fk qxi).1;apply hne;apply List.eq_nil_of_length_eq_zero;rw [hcl];simp only [List.length_nil] at this;simp only [Nat.mul_eq,Nat.sub_eq] at this ⊢;omega
       rw [if_neg (by omega),s8 ad (qzd qxP),Addr.add_lit]
      ·rintro rfl;have:=(fk qxi).1;apply hne;apply List.eq_nil_of_length_eq_zero;rw [hcl];simp only [List.length_nil] at this;simp only [Nat.mul_eq,Nat.sub_eq] at this ⊢;omega
      ·cases mx with
       |none=>
        cases cap with
        |none=>cases hc
        |some c0=>cases hc;simp only [g_];rw [hcap c0 rfl];rfl
       |some q=>cases hc;rfl
     ·cases hv
   ·cases hv
  ·rename_i id g off es' len cap ex hx;simp only [cond_eq_ite,Qn] at hv;split at hv
   ·rename_i hes;subst hes;split at hv
    ·cases hv
    ·rename_i l hh m hb;cases hv;rw [hx] at hr;obtain⟨b,base,ad,c',hX,hp1,hlc,hcc,qx3,had⟩:=dP hr;obtain⟨hrun,hl1,hl2,hl3⟩:=k5 (P:=P) (w:=w) hρ h2 h3 h4 hb hcc hlc hhi true;refine aL s (hex _ (hsl (some ad) len c' l hh _ hX hrun)) ?_;rw [Option.map_some,Az];have hcm:=yf mx (c':=c') (m:=m) (by omega);refine .ref id g _ es' _ _ _ b base _ _ hp1 (by simp only [Nat.sub_eq];omega) (by simp only [Nat.sub_eq];omega) (fun hx=>?_) (fun h0=>?_)
     ·cases mx with
      |none=>have h8:=uS hb;simp only [g_] at hx ⊢;rw [h8,qx3 hx];rfl
      |some q=>rfl
     ·have hne:g_ mx c' m≠l:=by omega
      rw [if_neg hne];obtain⟨rfl,c,e',fr,hc1,hc2⟩:=had (by omega);refine⟨by rw [Addr.add_lit];simp only [Nat.mul_eq,Nat.add_eq,Nat.add_assoc],c,e',fr,hc1,?_⟩;have h8:(g_ mx c' m - l)*es'+l*es'<=c'*es':=by rw [←Nat.add_mul];exact Nat.mul_le_mul_right _ (by omega)
      simp only [Nat.mul_eq,Nat.add_eq];omega
   ·cases hv
  ·cases hv
 ·cases hm
end
end Go.Ax
namespace Go.Ax
section
variable {top:Nat} {P:Program} {φ:fm} {K:Nat->Prop} {h:aW} {nx:Nat} {w:World} {ρ:aH->AV} {ρc:Operand->Value} {o:Oper}
theorem uF (s:bM top φ K h nx w):cq top φ K h nx w φ K h nx w.drew:=
 ⟨fun _ _ _ h=>h,fun _ h=>h,s.drew,(Ext.refl _ w).drew,fun _ h=>.inl h,fun _ h=>.inl h,fun _ _ _ h=>.inl h,fun _ h=>.inl h,Qy _⟩
theorem nh (P:Program) {b o:Nat} {c:Array Value} {e:TypeId} (hb:w.heap[b]?=some (.cells c e (0,0))) (vs:List Value) (hfit:o+vs.length<=c.size) (h1:∀u∈vs,u.oneCell'=true) :
  w.setCells b o vs=w.setRow b (c.toList.take o++vs++c.toList.drop (o+vs.length)).toArray:=by
 have hcell:∀j,j < vs.length->w.cell? ⟨b,o+j,none⟩=c[o+j]?:=fun j _=>jV hb
 have A:=run_storeCells_cells (P:=P) b o vs 0 w (fun j hj=>by rw [Nat.add_zero,hcell j hj,Array.getElem?_eq_getElem (by omega)];rfl) (fun j hj=>by simp [World.frozen?,hb]) h1
 have B:=run_storeCells_at P b o e vs 0 c w hb (by omega) h1;rw [A] at B;simp only [Nat.add_zero] at B;injection B
theorem gK {news:List Value} {cs:List AV} (hl:cs.length=news.length) (hr:∀(j:Nat) (y:AV),cs[j]?=some y->y.one=true/\∃u,news[j]?=some u/\aG φ K w y u):∀u∈news,u.oneCell'=true:=by intro u hu;obtain⟨j,hj,rfl⟩:=List.getElem_of_mem hu;obtain⟨r1,u',r2,r3⟩:=hr j _ (PU (by omega));rw [PU hj] at r2;cases r2;exact y5 r3 r1
theorem xL {cs:List AV} {n:Nat} {cap:Option Nat} {ad:Addr} (hK:cs≠[]->ad.spot=none/\K ad.block) (hc:∀(j:Nat) (a:AV),cs[j]?=some a->a.one=true/\∃v,w.cell? ⟨ad.block,ad.off+j,none⟩=some v/\dL K w a v) :
  ∃news:List Value,cs.length=news.length/\(∀j u,news[j]?=some u->w.cell? (ad.add j)=some u)/\(∀(j:Nat) (y:AV),cs[j]?=some y->y.one=true/\∃u,news[j]?=some u/\aG φ K w y u):=by
 refine⟨(List.range cs.length).map fun j=>(w.cell? ⟨ad.block,ad.off+j,none⟩).getD undef,by simp,fun j u hu=>?_,fun j y hy=>?_⟩
 ·have hj:j < cs.length:=by
   rcases Nat.lt_or_ge j cs.length with h'|h'
   ·exact h'
   ·rw [PZ (by simpa using h')] at hu;cases hu
  have hne:cs≠[]:=by rintro rfl;simp at hj
  obtain⟨_,v,r2,_⟩:=hc j _ (PU hj);rw [s8 ad (hK hne).1,Addr.add_lit,r2];simp [hj,r2] at hu;rw [hu]
 ·have hj:j < cs.length:=by
   rcases Nat.lt_or_ge j cs.length with h'|h'
   ·exact h'
   ·rw [PZ h'] at hy;cases hy
  obtain⟨r1,v,r2,r3⟩:=hc j y hy;exact⟨r1,v,by simp [hj,r2],.pure r3⟩
theorem iy (s:bM top φ K h nx w) {es m:Nat} {src:Src} {x:AV} {X:Value} (hs:cQ es x=some (m,src)) (r:aG φ K w x X) {a:List AV} (hf:dg h src.q=some a) :
  ∃(news:List Value) (ao:Option Addr) (c':Nat),X=.slice ao m c'/\m<=c'/\(src.cs a).length=m*es/\(src.cs a).length=news.length/\(ao=none->m=0)/\
   (∀ad,ao=some ad->∀j u,news[j]?=some u->w.cell? (ad.add j)=some u)/\(∀(j:Nat) (y:AV),(src.cs a)[j]?=some y->y.one=true/\∃u,news[j]?=some u/\aG φ K w y u):=by
 unfold cQ at hs;split at hs
 ·cases hs;rw [cH r];exact⟨[],none,0,rfl,Qy _,by simp [Src.cs],rfl,fun _=>rfl,fun _ h=>(by cases h),fun j y hy=>by simp [Src.cs] at hy⟩
 ·simp only [cond_eq_ite,Qn] at hs;split at hs
  ·rename_i hl;cases hs;obtain⟨ad,c',rfl,h1,_,h3,h4⟩:=fM r;obtain⟨news,n1,n2,n3⟩:=xL (φ:=φ) (n:=0) (cap:=none) h3 h4;exact⟨news,some ad,c',rfl,h1,hl.symm,n1,fun h=>(by cases h),fun ad' h=>(by cases h;exact n2),n3⟩
  ·cases hs
 ·rename_i id g off es' len cap ex;simp only [cond_eq_ite,Qn] at hs;split at hs
  ·rename_i hes;subst hes;cases hs;obtain⟨b,base,ad,c',rfl,hp1,hlc,hcc,qx3,had⟩:=dP r;obtain⟨b1,qq8,c,e,h1,h2,h3,h4,h5⟩:=fU s hf;rw [hp1] at h1;cases h1;have hlen:=i_ c (base+off) (Nat.mul m es');simp only [Nat.mul_eq] at h3 h4 hlen ⊢;have hb:∀j (y:AV),a[j]?=some y->j < m*es':=by
    intro j y hy;rcases Nat.lt_or_ge j a.length with h'|h'
    ·omega
    ·rw [PZ h'] at hy;cases hy
   refine⟨mM c (base+off) (m*es'),some ad,c',rfl,by omega,h4,h4.trans hlen.symm,fun h=>(by cases h),fun ad' h j u hu=>?_,fun j y hy=>?_⟩
   ·cases h;have hj:j < m*es':=by
     rcases Nat.lt_or_ge j (m*es') with h'|h'
     ·exact h'
     ·rw [PZ (by omega)] at hu;cases hu
    have hne:c'≠0:=by
     rintro rfl;have:m=0:=by omega
     subst this;omega
    obtain⟨rfl,_⟩:=had hne;rw [Addr.add_lit,jV h2,←fF c _ _ j hj (by omega),hu]
   ·obtain⟨r1,u,r2,r3⟩:=h5 j y hy;exact⟨r1,u,by rw [fF c _ _ j (hb j y hy) (by have:=hb j y hy;omega)];exact r2,r3⟩
  ·cases hs
 ·cases hs
theorem oh {es:Nat} {tx e':TypeId} (hk:P.underlying tx=some (.slice e')) {m c':Nat} {ao:Option Addr} {news:List Value} (hl:news.length=m*es) (h0:ao=none->m=0)
  (hn:∀ad,ao=some ad->∀j u,news[j]?=some u->w.cell? (ad.add j)=some u) (h1:∀u∈news,u.oneCell'=true):Go.Src P es tx (.slice ao m c') m news w:=by
 cases ao with
 |none=>have hm:=h0 rfl;subst hm;obtain rfl:news=[]:=List.eq_nil_of_length_eq_zero (by omega);exact Go.Src.ofNil w hk c'
 |some ad=>exact Go.Src.ofSlice w hk ad m c' news hl (hn ad rfl) h1
def HN (P:Program) (o:Oper) (es bytes:Nat) (x y:aH):Bool:=match o.op with
 |.call {callee:=.builtin .append,args:=⟨[x',y']⟩,argTypes:=⟨[t,tx]⟩}=>bn x' x&&bn y' y&&(ek P tx fun d=>match d with|.slice _=>true|_=>false)&&
   (ek P t fun d=>match d with
    |.slice e=>tInfo P e fun i=>Nat.beq i.size es&&Nat.beq i.bytes bytes&&(match i.zero with|some z=>Nat.beq z.cells.size es|none=>false)
    |_=>false)
 |_=>false
theorem DR {v:AV} {V:Value} (hv:vz v=true) (r:aG φ K w v V):∃ao l c,V=.slice ao l c/\l<=c:=by
 unfold vz at hv;split at hv
 ·exact⟨none,0,0,cH r,Qy _⟩
 ·obtain⟨ad,c',rfl,h1,_⟩:=fM r;exact⟨_,_,_,rfl,h1⟩
 ·obtain⟨b,base,ad,c',rfl,_,h1,h2,_⟩:=dP r;exact⟨_,_,_,rfl,by omega⟩
 ·cases hv
theorem yJ {es:Nat} {src:Src} {x:AV} {X:Value} (hs:cQ es x=some (0,src)) (r:aG φ K w x X):∃ao c',X=.slice ao 0 c':=by
 unfold cQ at hs;split at hs
 ·exact⟨none,0,cH r⟩
 ·simp only [cond_eq_ite,Qn] at hs;split at hs
  ·cases hs;obtain⟨ad,c',rfl,_⟩:=fM r;exact⟨_,_,rfl⟩
  ·cases hs
 ·simp only [cond_eq_ite,Qn] at hs;split at hs
  ·cases hs;obtain⟨b,base,ad,c',rfl,_⟩:=dP r;exact⟨_,_,rfl⟩
  ·cases hs
 ·cases hs
theorem pP {cs xs:List AV} {olds news:List Value} (h1:cs.length=olds.length) (h2:xs.length=news.length) (z:Array Value) (w':World)
  (hr1:∀(j:Nat) (y:AV),cs[j]?=some y->y.one=true/\∃u,olds[j]?=some u/\aG φ K w' y u) (hr2:∀(j:Nat) (y:AV),xs[j]?=some y->y.one=true/\∃u,news[j]?=some u/\aG φ K w' y u) :
  ∀(j:Nat) (y:AV),(cs++xs)[j]?=some y->y.one=true/\∃u,((olds++news).toArray++z)[j]?=some u/\aG φ K w' y u:=by
 intro j y hy;have hj:j < (cs++xs).length:=by
  rcases Nat.lt_or_ge j (cs++xs).length with h'|h'
  ·exact h'
  ·rw [PZ h'] at hy;cases hy
 have hj2:j < cs.length+xs.length:=by simpa using hj
 rw [Array.getElem?_append_left (by simp;omega),List.getElem?_toArray];by_cases hlo:j < cs.length
 ·rw [PW hlo] at hy;rw [PW (by omega)];exact hr1 j y hy
 ·rw [PX (by omega)] at hy;rw [PX (by omega),←h1];exact hr2 _ y hy
theorem nP {t tx ty e:TypeId} {i:TypeInfo} {z:Value} {es bytes:Nat} (ht:P.underlying t=some (.slice e)) (hi:P.info? e=some i) (hz:i.zero=some z) (hes:i.size=es) (hby:i.bytes=bytes) (hzs:z.cells.size=es)
  {ao base:Option Addr} {m c' sLen sCap:Nat} {olds news:List Value} (hol:olds.length=sLen*es) (hold:(Builtin.firstCells es sLen (.slice base sLen sCap)).run P w.drew=.ok olds.toArray w.drew)
  (hs:Go.Src P es tx (.slice ao m c') m news w) (hg:sCap < sLen+m) (hb1:(sLen+m)*bytes<=most) (hb2:sLen+m<=most) :
  ∃cap' zz,(Builtin.append_ #[t,tx] ty #[.slice base sLen sCap,.slice ao m c']).run P w=.ok (.slice (some ⟨w.heap.size,0,none⟩) (sLen+m) cap') (w.drew.alloc (.cells ((olds++news).toArray++zz) e))/\sLen+m<=cap'/\((olds++news).toArray++zz).size=cap'*es:=by
 subst hes hby;simp only [most] at hb1 hb2;have hrun:=run_append_grow_src (P:=P) w t tx ty e i z ht hi hz base sLen sCap olds hold _ m news hs hg (by omega) (growslice_fits hg (by omega));have hge:=grownCap_ge w (sLen+m) sCap e;refine⟨_,_,hrun,hge,?_⟩;have hnl:=hs.newsLen;simp only [Array.size_append,List.size_toArray,P7,size_zeroCells,hol,hnl,hzs];rw [←Nat.add_mul,←Nat.add_mul];congr 1;omega
theorem vW (s:bM top φ K h nx w) (qxo:nx < top) {es len:Nat} {cs xs:List AV} {olds news:List Value} {e:TypeId} {cap':Nat} {zz:Array Value} (h1:cs.length=olds.length) (h2:xs.length=news.length)
  (hr1:∀(j:Nat) (y:AV),cs[j]?=some y->y.one=true/\∃u,olds[j]?=some u/\aG φ K w y u) (hr2:∀(j:Nat) (y:AV),xs[j]?=some y->y.one=true/\∃u,news[j]?=some u/\aG φ K w y u)
  (hrun:(execOp ρc o).run P w=.ok (.value (.slice (some ⟨w.heap.size,0,none⟩) len cap')) (w.drew.alloc (.cells ((olds++news).toArray++zz) e))) (hle:len<=cap') (hsz:((olds++news).toArray++zz).size=cap'*es) :
  ∃V w' φ' K',((execOp ρc o).run P w=.ok (.value V) w'\/((execOp ρc o).run P w=.ok .skip w'/\V=undef))/\cq top φ K h nx w φ' K' (wu h nx (some (.row 0 (cs++xs)))) (nx+1) w'/\aG φ' K' w' (.ref nx 0 0 es len len false) V:=by
 have gd:=uF s;have hcell:=pP h1 h2 zz w.drew (fun j y hy=>let ⟨a1,u,a2,a3⟩:=hr1 j y hy;⟨a1,u,a2,gd.val s a3⟩) (fun j y hy=>let ⟨a1,u,a2,a3⟩:=hr2 j y hy;⟨a1,u,a2,gd.val s a3⟩);have g:=xP s.drew qxo (cs++xs) ((olds++news).toArray++zz) e (by simp;omega) (fun j a ha=>(hcell j a ha).1) (fun j a ha=>(hcell j a ha).2);refine⟨_,_,_,_,.inl hrun,gd.trans g,?_⟩;exact .ref nx 0 0 es len len false w.heap.size 0 ⟨w.heap.size,0,none⟩ cap' (by simp) (Qy _) hle (fun h=>by cases h) (fun _=>⟨rfl,_,e,(0,0),jw w.drew _,by omega⟩)
theorem BL (s:bM top φ K h nx w) {id g off b base:Nat} {cells xs:List AV} {news:List Value} {c:Array Value} {e:TypeId} (hh:h id=some (.row g cells)) (hb:φ id g=some (b,base)) (hc:w.heap[b]?=some (.cells c e (0,0)))
  (qxn:∀(j:Nat) (a:AV),cells[j]?=some a->a.one=true/\∃v,c[base+j]?=some v/\aG φ K w a v) (hoff:off<=cells.length) (h2:xs.length=news.length) (hfit:base+cells.length+news.length<=c.size)
  (hr2:∀(j:Nat) (y:AV),xs[j]?=some y->y.one=true/\∃u,news[j]?=some u/\aG φ K w y u) :
  cq top φ K h nx w (fun i gg=>if i=id/\gg=g+1 then some (b,base+off) else φ i gg) K (wu h id (some (.row (g+1) (cells.drop off++xs)))) nx (w.setRow b (c.toList.take (base+cells.length)++news++c.toList.drop (base+cells.length+news.length)).toArray):=by
 have hsize:(c.toList.take (base+cells.length)++news++c.toList.drop (base+cells.length+news.length)).toArray.size=c.size:=by simp;omega
 refine sx s hh hb (g+1) (cells.drop off++xs) b (base+off) _ e (fun i gg=>rfl) (.inr (Nat.lt_succ_self g)) (.inl rfl) (setRow_heap w b c _ e (0,0) hc) (fun i hi hne=>setRow_other w b i _ hne) (by simp [World.setRow]) ?_ (fun a=>mh w hc _ a) rfl rfl rfl (by rw [hsize];simp;omega) ?_
 ·intro c1 e1 fr1 h1;rw [hc] at h1;cases h1;exact⟨rfl,rfl,hsize⟩
 ·intro j a ha;simp only [List.getElem?_toArray];by_cases hlo:j < cells.length - off
  ·rw [PW (by simpa using hlo),P3] at ha;obtain⟨h1,v,h3,h4⟩:=qxn _ a ha;refine⟨h1,v,?_,h4⟩;rw [PW (by simp;omega),PW (by simp;omega),List.getElem?_take_of_lt (by omega),Array.getElem?_toList,←h3];congr 1;omega
  ·rw [PX (by simp;omega),P9] at ha;obtain⟨h1,u,h3,h4⟩:=hr2 _ a ha;refine⟨h1,u,?_,h4⟩;have hj:j - (cells.length - off) < news.length:=(PV.1 h3).1;rw [PW (by simp;omega),PX (by simp;omega),←h3];congr 1;simp only [P8,Array.length_toList];omega
theorem ED (s:bM top φ K h nx w) {id g b base:Nat} {cells cs:List AV} {cn:Array Value} {c:Array Value} {e e':TypeId} (hh:h id=some (.row g cells)) (hb:φ id g=some (b,base)) (hc:w.heap[b]?=some (.cells c e (0,0)))
  (hsz:cs.length<=cn.size) (hr:∀(j:Nat) (y:AV),cs[j]?=some y->y.one=true/\∃u,cn[j]?=some u/\aG φ K w y u) :
  cq top φ K h nx w (fun i gg=>if i=id/\gg=g+1 then some (w.heap.size,0) else φ i gg) K (wu h id (some (.row (g+1) cs))) nx (w.drew.alloc (.cells cn e')):=by
 refine sx s hh hb (g+1) cs w.heap.size 0 cn e' (fun i gg=>rfl) (.inr (Nat.lt_succ_self g)) (.inr rfl) (jw w.drew _) (fun i hi hne=>o8 w.drew _ hi) (by simp) ?_ (fun a=>RowKit.frozen?_alloc_cells w.drew cn e' a) rfl rfl rfl (by omega) ?_
 ·intro c1 e1 fr1 h1;rw [Array.getElem?_eq_none (Qy _)] at h1;cases h1
 ·intro j a ha;rw [Nat.zero_add];exact hr j a ha
end
end Go.Ax
namespace Go.Ax
section
variable {top:Nat} {P:Program} {φ:fm} {K:Nat->Prop} {h:aW} {nx:Nat} {w:World} {ρ:aH->AV} {ρc:Operand->Value} {o:Oper}
theorem oo {q:Option yp} {k:List AV->Option dU->Option Out} {v:AV} {h':aW} {nx':Nat} (hr:oq (.look q none k) h nx=some (v,h',nx')) :
  ∃a out,dg h q=some a/\k a none=some out/\(match out.new with
   |some ob=>some (out.val nx,wu (pX h none out.obj) nx (some ob),nx+1)
   |none=>some (out.val nx,pX h none out.obj,nx))=some (v,h',nx'):=by
 simp only [oq,gk] at hr;cases hq:dg h q with
 |none=>rw [hq] at hr;cases hr
 |some a=>
  rw [hq] at hr;simp only at hr;cases hk:k a none with
  |none=>rw [hk] at hr;cases hr
  |some out=>rw [hk] at hr;exact⟨a,out,rfl,hk,hr⟩
theorem Je (s:bM top φ K h nx w) (hρ:∀x y,bn x y=true->aG φ K w (ρ y) (ρc x)) {es bytes:Nat} {x y:aH} (hm:HN P o es bytes x y=true) {p:aO} (hp:lX es bytes (ρ x) (ρ y)=some p):Sound top P φ K h nx w ρc o p:=by
 unfold HN at hm;split at hm
 ·rename_i x' y' t tx ho;simp only [Qk] at hm;obtain⟨⟨⟨tf,hmy⟩,htx⟩,ht⟩:=hm;have hrx:=hρ _ _ tf;have hry:=hρ _ _ hmy;obtain⟨dx,hdx,qw5⟩:=aX htx;have hkx:∃e',P.underlying tx=some (.slice e'):=by cases dx<;>first|exact⟨_,hdx⟩|cases qw5
  obtain⟨e',hkx⟩:=hkx;obtain⟨dt,hdt,qwK⟩:=aX ht;have hkt:∃e,P.underlying t=some (.slice e)/\(tInfo P e fun i=>Nat.beq i.size es&&Nat.beq i.bytes bytes&&(match i.zero with|some z=>Nat.beq z.cells.size es|none=>false))=true:=by cases dt<;>first|exact⟨_,hdt,qwK⟩|cases qwK
  obtain⟨e,hkt,hie⟩:=hkt;obtain⟨i,hi,qwH⟩:=cS hie;simp only [Qk,Qn] at qwH;obtain⟨⟨hes,hby⟩,hz2⟩:=qwH;have hzz:∃z,i.zero=some z/\z.cells.size=es:=by
   cases hz:i.zero with
   |none=>rw [hz] at hz2;cases hz2
   |some z=>rw [hz] at hz2;exact⟨z,rfl,by simpa [Qn] using hz2⟩
  obtain⟨z,hz,hzs⟩:=hzz;have qxf:∀{V:Value} {w':World},(Builtin.append_ #[t,tx] o.type #[ρc x',ρc y']).run P w=.ok V w'->(execOp ρc o).run P w=.ok (.value V) w':=fun hr=>eW (x:=Builtin.append_ #[t,tx] o.type #[ρc x',ρc y']) ho (fun _=>by simp [builtin]) hr
  unfold lX at hp;split at hp
  ·cases hp
  ·rename_i m src hsrc;simp only [cond_eq_ite,Qn,Qk,Qo,Qp] at hp;split at hp
   ·rename_i hm0;subst hm0;split at hp
    ·rename_i hsl;cases hp;obtain⟨ao,l,c,hX,hle⟩:=DR hsl hrx;obtain⟨ao',c',hY⟩:=yJ hsrc hry;refine aL s (qxf ?_) hrx;rw [hX,hY];refine run_append_nothing w t tx o.type e i hkt hi ao l c hle _ ?_;exact oh hkx (by simp) (fun _=>rfl) (fun _ _ j u hu=>by simp at hu) (fun u hu=>by cases hu)
    ·cases hp
   ·rename_i hm0;split at hp
    ·rename_i hx;rw [hx] at hrx;split at hp
     ·rename_i hb;cases hp;intro v h' nx' hrun qxo;obtain⟨a,out,hf,hk,hend⟩:=oo hrun;cases hk;cases hend;obtain⟨news,ao,c',hY,hmc,hl1,hl2,hao,hn,hr2⟩:=iy s hsrc hry hf;have hs:=oh (w:=w) (c':=c') hkx (hl2.symm.trans hl1) hao hn (gK hl2 hr2);have hX:=cH hrx;simp only [Nat.mul_eq] at hb;obtain⟨cap',zz,g1,g2,g3⟩:=nP (ty:=o.type) (sLen:=0) (sCap:=0) (base:=none) (olds:=[]) hkt hi hz hes hby hzs (by simp) (run_firstCells_none w.drew es 0 0 0) hs (by omega) (by rw [Nat.zero_add];exact hb.1) (by omega);rw [Nat.zero_add] at g1 g2;exact vW s qxo (cs:=[]) (olds:=[]) rfl hl2 (fun j y hy=>by simp at hy) hr2 (qxf (by rw [hX,hY];exact g1)) g2 g3
     ·cases hp
    ·rename_i cs n c hx;rw [hx] at hrx;split at hp
     ·rename_i hb;cases hp;simp only [Nat.mul_eq,Nat.add_eq] at hb;obtain⟨⟨⟨hb1,hb2⟩,hb3⟩,hb4⟩:=hb;intro v h' nx' hrun qxo;obtain⟨a,out,hf,hk,hend⟩:=oo hrun;cases hk;cases hend;obtain⟨news,ao,c',hY,hmc,hl1,hl2,hao,hn,hr2⟩:=iy s hsrc hry hf;have hs:=oh (w:=w) (c':=c') hkx (hl2.symm.trans hl1) hao hn (gK hl2 hr2);obtain⟨ad,c'',hX,hn1,hcap,hK1,hc1⟩:=fM hrx;obtain⟨olds,o1,o2,o3⟩:=xL (φ:=φ) (n:=0) (cap:=none) hK1 hc1;have hcc:=hcap c rfl;subst hcc;obtain⟨cap',zz,g1,g2,g3⟩:=nP (ty:=o.type) (sLen:=n) (sCap:=c'') (base:=some ad) (olds:=olds) hkt hi hz hes hby hzs (by omega) (run_firstCells_some w.drew es n ad n c'' olds (by omega) (by simpa using o2)) hs (by omega) hb3 hb4;exact vW s qxo o1 hl2 o3 hr2 (qxf (by rw [hX,hY];exact g1)) g2 g3
     ·cases hp
    ·rename_i id g off es' len cap ex hx;rw [hx] at hrx;split at hp
     ·rename_i hb;simp only [Nat.mul_eq,Nat.add_eq] at hb;obtain⟨⟨hb1,hb2⟩,hb3⟩:=hb;subst hb1;obtain⟨b,base,ad,c1,hX,hp1,hlc,hcc,qx3,had⟩:=dP hrx;cases hp;unfold s6;simp only [cond_eq_ite,Qn,Qo];split
      ·rename_i hroom;simp only [Nat.add_eq] at hroom;intro v h' nx' hrun qxo;obtain⟨a,cells,out,hf,hh,hk,hend⟩:=jg hrun;split at hk
       ·rename_i cells' hov;cases hk;cases hend;obtain⟨news,ao,c',hY,hmc,hl1,hl2,hao,hn,hr2⟩:=iy s hsrc hry hf;have h1:=gK hl2 hr2;have hs:=oh (w:=w) (c':=c') hkx (hl2.symm.trans hl1) hao hn h1;obtain⟨b1,qq8,c,e1,h5,h6,h7,h8⟩:=s.row id g cells hh;rw [hp1] at h5;cases h5;have hne:c1≠0:=by omega
        obtain⟨rfl,c2,e2,fr,h9,h10⟩:=had hne;rw [h6] at h9;cases h9;have hof:=(cP hov).1;simp only [Nat.mul_eq,Nat.add_eq] at hof hov;have qxr:base+off+len*es'+news.length<=c.size:=by omega
        have qxL:=run_append_room_src (P:=P) w t tx o.type e i hkt hi b (base+off) len c1 (.slice ao m c') m news (by rw [hes];exact hs) (by omega) (fun j hj=>by rw [jV h6,hes,Array.getElem?_eq_getElem (by omega)];rfl) (fun j hj=>by simp [World.frozen?,h6])
        rw [hes,nh P h6 news qxr h1] at qxL;have hg:=lK s hh hp1 h6 h7 h8 hov news hl2.symm (fun j a v ha hv=>by obtain⟨_,u,q1,q2⟩:=hr2 j a ha;rw [q1] at hv;cases hv;exact q2) (fun j a ha=>(hr2 j a ha).1)
        rw [←Nat.add_assoc base off] at hg;refine⟨_,_,_,_,.inl (qxf (by rw [hX,hY];exact qxL)),hg,?_⟩;refine .ref id g off es' (len+m) cap ex b base _ c1 hp1 hroom (by omega) qx3 (fun _=>⟨rfl,_,e1,(0,0),setRow_heap w b c _ e1 (0,0) h6,?_⟩);simp only [List.size_toArray,P7,P8,P9,Array.length_toList];omega
       ·cases hk
      ·rename_i hroom;simp only [Nat.add_eq] at hroom;split
       ·rename_i hex;have hce:=qx3 hex;intro v h' nx' hrun qxo;obtain⟨a,cells,out,hf,hh,hk,hend⟩:=jg hrun;split at hk
        ·rename_i cs qxi;cases hk;cases hend;obtain⟨news,ao,c',hY,hmc,hl1,hl2,hao,hn,hr2⟩:=iy s hsrc hry hf;have hs:=oh (w:=w) (c':=c') hkx (hl2.symm.trans hl1) hao hn (gK hl2 hr2);have hf2:dg h (some ⟨id,g,off,len*es'⟩)=some cs:=by simp only [dg,hh,cond_eq_ite,Qn,if_true];exact qxi
         obtain⟨olds,ao2,c3,hX2,_,ho1,ho2,qw8,hn2,hro⟩:=iy (src:=.qh ⟨id,g,off,len*es'⟩) (es:=es') (m:=len) s (by simp [cQ]) hrx hf2;rw [hX] at hX2;cases hX2;simp only [Src.cs] at ho1 ho2 hro;obtain⟨cap',zz,g1,g2,g3⟩:=nP (ty:=o.type) (sLen:=len) (sCap:=c1) (base:=some ad) (olds:=olds) hkt hi hz hes hby hzs (by omega) (run_firstCells_some w.drew es' len ad len c1 olds (by omega) (by simpa using hn2 ad rfl)) hs (by omega) hb2 hb3;exact vW s qxo ho2 hl2 hro hr2 (qxf (by rw [hX,hY];exact g1)) g2 g3
        ·cases hk
       ·rename_i hex;intro v h' nx' hrun qxo;obtain⟨a,cells,out,hf,hh,hk,hend⟩:=jg hrun;split at hk
        ·rename_i qka;simp only [Nat.mul_eq,Nat.add_eq] at qka;cases hk;cases hend;obtain⟨news,ao,c',hY,hmc,hl1,hl2,hao,hn,hr2⟩:=iy s hsrc hry hf;have h1:=gK hl2 hr2;have hs:=oh (w:=w) (c':=c') hkx (hl2.symm.trans hl1) hao hn h1;obtain⟨b1,qq8,c,e1,h5,h6,h7,h8⟩:=s.row id g cells hh;rw [hp1] at h5;cases h5;by_cases qxr:len+m<=c1
         ·have hne:c1≠0:=by omega
          obtain⟨rfl,c2,e2,fr,h9,h10⟩:=had hne;rw [h6] at h9;cases h9;have hmul:(len+m)*es'<=c1*es':=Nat.mul_le_mul_right _ qxr;rw [Nat.add_mul] at hmul;have qzS:base+off+len*es'+news.length<=c.size:=by omega
          have qxL:=run_append_room_src (P:=P) w t tx o.type e i hkt hi b (base+off) len c1 (.slice ao m c') m news (by rw [hes];exact hs) qxr (fun j hj=>by rw [jV h6,hes,Array.getElem?_eq_getElem (by omega)];rfl) (fun j hj=>by simp [World.frozen?,h6])
          rw [hes,nh P h6 news qzS h1] at qxL;have hg:=BL (off:=off) s hh hp1 h6 h8 (by omega) hl2 (by omega) hr2;rw [show base+cells.length=base+off+len*es' by omega] at hg;refine⟨_,_,_,_,.inl (qxf (by rw [hX,hY];exact qxL)),hg,?_⟩;refine .ref id (g+1) 0 es' (len+m) (len+m) false b (base+off) _ c1 (by simp) (Qy _) qxr (fun h=>by cases h) (fun _=>⟨rfl,_,e1,(0,0),setRow_heap w b c _ e1 (0,0) h6,?_⟩);simp only [List.size_toArray,P7,P8,P9,Array.length_toList];omega
         ·have hf2:dg h (some ⟨id,g,off,len*es'⟩)=some (cells.drop off):=by simp only [dg,hh,cond_eq_ite,Qn,if_true];rw [cJ,if_pos (by omega),Qu (by rw [P9];omega)]
          obtain⟨olds,ao2,c3,hX2,_,ho1,ho2,qw8,hn2,hro⟩:=iy (src:=.qh ⟨id,g,off,len*es'⟩) (es:=es') (m:=len) s (by simp [cQ]) hrx hf2;rw [hX] at hX2;cases hX2;simp only [Src.cs] at ho1 ho2 hro;obtain⟨cap',zz,g1,g2,g3⟩:=nP (ty:=o.type) (sLen:=len) (sCap:=c1) (base:=some ad) (olds:=olds) hkt hi hz hes hby hzs (by omega) (run_firstCells_some w.drew es' len ad len c1 olds (by omega) (by simpa using hn2 ad rfl)) hs (by omega) hb2 hb3;have hcell:=pP ho2 hl2 zz w hro hr2;refine⟨_,_,_,_,.inl (qxf (by rw [hX,hY];exact g1)),ED (e':=e) s hh hp1 h6 (by simp;omega) hcell,?_⟩;exact .ref id (g+1) 0 es' (len+m) (len+m) false w.heap.size 0 _ cap' (by simp) (Qy _) g2 (fun h=>by cases h) (fun _=>⟨rfl,_,e,(0,0),jw w.drew _,by omega⟩)
        ·cases hk
     ·cases hp
    ·cases hp
 ·cases hm
end
end Go.Ax
namespace Go.Ax
section
variable {top:Nat} {P:Program} {φ:fm} {K:Nat->Prop} {h:aW} {nx:Nat} {w:World} {ρ:aH->AV} {ρc:Operand->Value} {o:Oper}
theorem oe:aG φ K w c8 undef:=.pure (.dM [] #[] rfl (fun j a v ha=>by simp at ha))
theorem x_ {dT sT ty e:TypeId} {i:TypeInfo} {es:Nat} (hu:P.underlying dT=some (.slice e)) (hi:P.info? e=some i) (hes:i.size=es) (dn:Option Addr) (dLen dCap:Nat) (ao:Option Addr) (m c':Nat) (news:List Value)
  (hn:news.length=Nat.min m dLen*es) (h0:ao=none->m=0) (qxn:∀ad,ao=some ad->∀j u,news[j]?=some u->w.cell? (ad.add j)=some u) (w':World)
  (hst:∀ad,dn=some ad->(storeCells ad news).run P w=.ok () w') (hnone:dn=none->w'=w) :
  (Builtin.copy_ #[dT,sT] ty #[.slice dn dLen dCap,.slice ao m c']).run P w=.ok (goInt (Nat.min m dLen)) w':=by
 subst hes;have hfc:(Builtin.firstCells i.size (Nat.min m dLen) (.slice ao m c')).run P w=.ok news.toArray w:=by
  cases ao with
  |none=>have:=h0 rfl;subst this;obtain rfl:news=[]:=List.eq_nil_of_length_eq_zero (by rw [hn];simp);exact run_firstCells_none w _ _ _ _
  |some ad=>exact run_firstCells_some w _ _ ad _ _ news hn (qxn ad rfl)
 have hsz:(sizeOf e).run P w=.ok i.size w:=by simp [sizeOf,typeInfo,hi]
 cases dn with
 |none=>have:=hnone rfl;subst this;simp only [Builtin.copy_,Builtin.lenOf,Sem.run_bind,Result.andThen_ok,run_underlying hu,Sem.run_pure,hsz,hfc];simp [run_underlying hu,hsz,hfc]
 |some ad=>have:=hst ad rfl;simp [Builtin.copy_,Builtin.lenOf,run_underlying hu,hsz,hfc,this]
def HJ (P:Program) (o:Oper) (es:Nat) (x y:aH):Bool:=match o.op with
 |.call {callee:=.builtin .copy,args:=⟨[x',y']⟩,argTypes:=⟨[t,_]⟩}=>bn x' x&&bn y' y&&(z8 P t es)
 |_=>false
theorem Ja (s:bM top φ K h nx w) (hρ:∀x y,bn x y=true->aG φ K w (ρ y) (ρc x)) {es:Nat} {x y:aH} (hm:HJ P o es x y=true) {p:aO} (hp:x4 es (ρ x) (ρ y)=some p):Sound top P φ K h nx w ρc o p:=by
 unfold HJ at hm;split at hm
 ·rename_i x' y' t tx ho;simp only [Qk] at hm;obtain⟨⟨tf,hmy⟩,ht⟩:=hm;have hrx:=hρ _ _ tf;have hry:=hρ _ _ hmy;obtain⟨e,hu,hse⟩:=mE ht;obtain⟨i,hi,hes⟩:=cS hse;rw [Qn] at hes;have qxf:∀{V:Value} {w':World},(Builtin.copy_ #[t,tx] o.type #[ρc x',ρc y']).run P w=.ok V w'->(execOp ρc o).run P w=.ok (.value V) w':=fun hr=>eW (x:=Builtin.copy_ #[t,tx] o.type #[ρc x',ρc y']) ho (fun _=>by simp [builtin]) hr
  unfold x4 at hp;split at hp
  ·cases hp
  ·rename_i m src hsrc;split at hp
   ·rename_i hx;cases hp;rw [hx] at hrx;have hX:=cH hrx;have hY:∃ao c',ρc y'=.slice ao m c'/\(ao=none->m=0):=by
     unfold cQ at hsrc;split at hsrc
     ·rename_i hy;cases hsrc;rw [hy] at hry;exact⟨none,0,cH hry,fun _=>rfl⟩
     ·rename_i hy;simp only [cond_eq_ite,Qn] at hsrc;split at hsrc
      ·cases hsrc;rw [hy] at hry;obtain⟨ad,c',hY,_⟩:=fM hry;exact⟨_,_,hY,fun h=>by cases h⟩
      ·cases hsrc
     ·rename_i hy;simp only [cond_eq_ite,Qn] at hsrc;split at hsrc
      ·cases hsrc;rw [hy] at hry;obtain⟨b,base,ad,c',hY,_⟩:=dP hry;exact⟨_,_,hY,fun h=>by cases h⟩
      ·cases hsrc
     ·cases hsrc
    obtain⟨ao,c',hY,h0⟩:=hY;refine aL s (V:=goInt 0) (qxf ?_) (.pure (.int _ _));rw [hX,hY];have:=x_ (P:=P) (w:=w) (sT:=tx) (ty:=o.type) hu hi hes none 0 0 ao m c' [] (by simp) h0 (fun ad _ j u hj=>by simp at hj) w (fun ad h=>by cases h) (fun _=>rfl);simpa using this
   ·rename_i id g off es' len cap ex hx;simp only [cond_eq_ite,Qn] at hp;split at hp
    ·rename_i qj9;subst qj9;cases hp;rw [hx] at hrx;obtain⟨b,base,ad,c1,hX,hp1,hlc,hcc,qx3,had⟩:=dP hrx;intro v h' nx' hrun qxo;obtain⟨a,cells,out,hf,hh,hk,hend⟩:=jg hrun;split at hk
     ·rename_i cs qjp;split at hk
      ·rename_i cells' hov;cases hk;cases hend;obtain⟨news,ao,c',hY,hmc,hl1,hl2,hao,hn,hr2⟩:=iy s hsrc hry hf;rw [nR] at qjp;split at qjp
       ·rename_i hle;cases qjp;simp only [Nat.mul_eq] at hle hov ⊢;have hr3:∀(j:Nat) (y:AV),((src.cs a).take (min m len*es'))[j]?=some y->y.one=true/\∃u,(news.take (min m len*es'))[j]?=some u/\aG φ K w y u:=by
         intro j y hy;have hj:j < min m len*es':=by
          rcases Nat.lt_or_ge j (min m len*es') with h'|h'
          ·exact h'
          ·rw [PZ (by simp;omega)] at hy;cases hy
         rw [List.getElem?_take_of_lt hj] at hy ⊢;exact hr2 j y hy
        have hl3:((src.cs a).take (min m len*es')).length=(news.take (min m len*es')).length:=by simp only [P8,hl2]
        have hl4:(news.take (min m len*es')).length=min m len*es':=by rw [P8];omega
        have h1:=gK hl3 hr3;obtain⟨b1,qq8,c,e1,h5,h6,h7,h8⟩:=s.row id g cells hh;rw [hp1] at h5;cases h5;have hof:=(cP hov).1;have hst:=run_storeCells_at P b (base+off) e1 (news.take (min m len*es')) 0 c w h6 (by omega) h1;simp only [Nat.add_zero] at hst;have hstep:(Builtin.copy_ #[t,tx] o.type #[ρc x',ρc y']).run P w=.ok (goInt (Nat.min m len)) (w.setRow b (c.toList.take (base+off)++news.take (min m len*es')++c.toList.drop (base+off+(news.take (min m len*es')).length)).toArray):=by
         rw [hX,hY];refine x_ hu hi hes (some ad) len c1 ao m c' (news.take (min m len*es')) hl4 hao (fun ad' h j u hj=>?_) _ (fun ad' h=>?_) (fun h=>by cases h)
         ·have hj2:j < min m len*es':=by
           rcases Nat.lt_or_ge j (min m len*es') with h'|h'
           ·exact h'
           ·rw [PZ (by omega)] at hj;cases hj
          rw [List.getElem?_take_of_lt hj2] at hj;exact hn ad' h j u hj
         ·cases h;by_cases hc0:c1=0
          ·have hl0:len=0:=by omega
           have qz0:news.take (min m len*es')=[]:=List.eq_nil_of_length_eq_zero (by rw [hl4,hl0];simp);rw [qz0];simp only [List.append_nil,List.length_nil,Nat.add_zero,List.take_append_drop,Array.toArray_toList];rw [setRow_self w b c e1 (0,0) h6];rfl
          ·obtain⟨rfl,_⟩:=had hc0;exact hst
        refine⟨_,_,φ,K,.inl (qxf hstep),lK s hh hp1 h6 h7 h8 hov (news.take (min m len*es')) hl3.symm (fun j a v ha hv=>by obtain⟨_,u,q1,q2⟩:=hr3 j a ha;rw [q1] at hv;cases hv;exact q2) (fun j a ha=>(hr3 j a ha).1),.pure ?_⟩
        have:goInt (Nat.min m len)=.int .i64 ((min m len:Nat):Int):=rfl;rw [this,show (min (m:Int) (len:Int))=((min m len:Nat):Int) by omega];exact .int _ _
       ·cases qjp
      ·cases hk
     ·cases hk
    ·cases hp
   ·cases hp
 ·cases hm
def HK (P:Program) (o:Oper) (es:Nat) (zero:List AV) (x:aH):Bool:=match o.op with
 |.call {callee:=.builtin .clear,args:=⟨[x']⟩,argTypes:=⟨[t]⟩}=>bn x' x&&(ek P t fun d=>match d with|.slice e=>jf P e es&&Nat.blt 0 es&&Nat.beq zero.length es&&rX P e zero|_=>false)
 |_=>false
theorem Jb (s:bM top φ K h nx w) (hρ:∀x y,bn x y=true->aG φ K w (ρ y) (ρc x)) {es:Nat} {zero:List AV} {x:aH} (hm:HK P o es zero x=true) {p:aO} (hp:Fm ρ es zero x=some p):Sound top P φ K h nx w ρc o p:=by
 unfold HK at hm;split at hm
 ·rename_i x' t ho;simp only [Qk] at hm;obtain⟨tf,ht⟩:=hm;have hrx:=hρ _ _ tf;obtain⟨d,hd,hd2⟩:=aX ht;have hk:∃e,P.underlying t=some (.slice e)/\(jf P e es&&Nat.blt 0 es&&Nat.beq zero.length es&&rX P e zero)=true:=by cases d<;>first|exact⟨_,hd,hd2⟩|cases hd2
  obtain⟨e,hu,hk⟩:=hk;simp only [Qk,Qp,Qn] at hk;obtain⟨⟨⟨_,hpos⟩,hzl⟩,hz⟩:=hk;obtain⟨z,z1,z2,z3,z4⟩:=lG hz K w;have qxf:∀{V:Value} {w':World},(Builtin.clear_ #[t] o.type #[ρc x']).run P w=.ok V w'->(execOp ρc o).run P w=.ok (.value V) w':=fun hr=>eW (x:=Builtin.clear_ #[t] o.type #[ρc x']) ho (fun _=>by simp [builtin]) hr
  have hV:∀{φ':fm} {K':Nat->Prop} {w':World},aG φ' K' w' c8 (.tuple #[]):=.pure (.dM [] #[] rfl (fun j a v ha=>by simp at ha));unfold Fm at hp;split at hp
  ·rename_i hx;cases hp;rw [hx] at hrx;refine aL s (V:=.tuple #[]) (qxf ?_) hV;rw [cH hrx];simp [Builtin.clear_,run_underlying hu]
  ·rename_i id g off es' len cap ex hx;simp only [cond_eq_ite,Qn] at hp;split at hp
   ·rename_i qj9;subst qj9;cases hp;rw [hx] at hrx;obtain⟨b,base,ad,c1,hX,hp1,hlc,hcc,qx3,had⟩:=dP hrx;intro v h' nx' hrun qxo;obtain⟨_,cells,out,_,hh,hk,hend⟩:=jg (q:=none) (k:=fun _ cells=>match cO cells off (rows len zero) with|some cells'=>some ⟨fun _=>c8,some (.row g cells'),none⟩|none=>none) hrun;split at hk
    ·rename_i cells' hov;cases hk;cases hend;obtain⟨b1,qq8,c,e1,h5,h6,h7,h8⟩:=s.row id g cells hh;rw [hp1] at h5;cases h5;have hrl:(rows len zero).length=len*es':=by simp [rows,hzl]
     have hzs:z.cells.size=es':=by omega
     have hnl:(Builtin.zeroCells z.cells len).toList.length=len*es':=by rw [Array.length_toList,size_zeroCells,hzs]
     have hr3:∀(j:Nat) (y:AV),(rows len zero)[j]?=some y->y.one=true/\∃u,(Builtin.zeroCells z.cells len).toList[j]?=some u/\aG φ K w y u:=by
      intro j y hy;have hj:j < len*es':=by
       rcases Nat.lt_or_ge j (len*es') with h'|h'
       ·exact h'
       ·rw [PZ (by omega)] at hy;cases hy
      rw [rows,vf zero len j (by rw [hzl];exact hj),hzl] at hy;obtain⟨r1,u,r2,r3⟩:=z4 _ y hy;refine⟨r1,u,?_,.pure r3⟩;rw [Array.getElem?_toList,Builtin.zeroCells,rW z.cells _ j (by omega) (by rw [hzs];exact hj),hzs];exact r2
     have hl3:(rows len zero).length=(Builtin.zeroCells z.cells len).toList.length:=by omega
     have h1:=gK hl3 hr3;have hof:=(cP hov).1;have hst:=run_storeCells_at P b (base+off) e1 (Builtin.zeroCells z.cells len).toList 0 c w h6 (by omega) h1;simp only [Nat.add_zero] at hst;have hgo:=lK s hh hp1 h6 h7 h8 hov (Builtin.zeroCells z.cells len).toList hl3.symm (fun j a v ha hv=>by obtain⟨_,u,q1,q2⟩:=hr3 j a ha;rw [q1] at hv;cases hv;exact q2) (fun j a ha=>(hr3 j a ha).1)
     refine⟨.tuple #[],_,φ,K,.inl (qxf ?_),hgo,hV⟩;rw [hX];by_cases hl0:len=0
     ·subst hl0;have qz0:(Builtin.zeroCells z.cells 0).toList=[]:=List.eq_nil_of_length_eq_zero (by omega);rw [qz0];simp only [List.append_nil,List.length_nil,Nat.add_zero,List.take_append_drop,Array.toArray_toList];rw [setRow_self w b c e1 (0,0) h6];simp [Builtin.clear_,run_underlying hu]
     ·obtain⟨rfl,_⟩:=had (by omega);obtain⟨k,rfl⟩:=Nat.exists_eq_succ_of_ne_zero hl0;simp only [Nat.succ_eq_add_one] at hst ⊢;simp [Builtin.clear_,run_underlying hu,z1,hst]
    ·cases hk
   ·cases hp
  ·cases hp
 ·cases hm
def zc (P:Program) (o:Oper) (n es:Nat) (x:aH) (lo hi mx:Option aH):Bool:=match o.op with
 |.slice t x' lo' hi' mx'=>bn x' x&&qa lo' lo&&qa hi' hi&&qa mx' mx&&GR P t n es&&(match mx with|none=>true|some _=>hi.isSome)
 |_=>false
theorem Fb (s:bM top φ K h nx w) (hρ:∀x y,bn x y=true->aG φ K w (ρ y) (ρc x)) {n es:Nat} {x:aH} {lo hi mx:Option aH} (hm:zc P o n es x lo hi mx=true) {p:aO} (hp:iW ρ n es x lo hi mx=some p):Sound top P φ K h nx w ρc o p:=by
 unfold zc at hm;split at hm
 ·rename_i t x' lo' hi' mx' ho;simp only [Qk] at hm;obtain⟨⟨⟨⟨⟨h1,h2⟩,h3⟩,h4⟩,h5⟩,h6⟩:=hm;obtain⟨e,hu,hs⟩:=tJ h5;have hr:=hρ _ _ h1;have hhi:mx.isSome=true->hi.isSome=true:=by intro tf;obtain⟨q,rfl⟩:=Option.isSome_iff_exists.1 tf;exact h6
  unfold iW at hp;split at hp
  ·rename_i id g off hx;rw [hx] at hr;obtain⟨b,base,hb,hV⟩:=jG hr;split at hp
   ·cases hp
   ·rename_i l hh m hbn;cases hp;obtain⟨hrun,hl1,hl2,hl3⟩:=k5 (P:=P) (w:=w) hρ h2 h3 h4 hbn (Qy n) (Qy n) hhi false;have hcap:g_ mx n m=m:=by
     cases mx with
     |none=>exact(uS hbn).symm
     |some q=>rfl
    rw [hcap] at hrun;intro v h' nx' hrr qxo;obtain⟨a,out,hf,hk,hend⟩:=oo hrr;cases hk;cases hend;obtain⟨b1,qq8,c,e1,q1,q2,q3,q4,q5⟩:=fU s hf;rw [hb] at q1;cases q1;simp only [Nat.mul_eq] at q3;refine⟨.slice (some (if m=l then ⟨b,base+off,none⟩ else (⟨b,base+off,none⟩:Addr).add (l*es))) (hh - l) (m - l),w,φ,K,.inl ?_,cq.refl s,?_⟩
    ·simp only [execOp,ho];refine ep ?_;simp [Instr.sliceAt,run_underlying hu,hV,Instr.sureAddr,hrun,dN hs]
    ·refine .ref id g _ es _ _ _ b base _ _ hb (by simp only [Nat.sub_eq];omega) (Qy _) (fun _=>rfl) (fun h0=>?_);rw [if_neg (by omega),Addr.add_lit];refine⟨by simp only [Nat.mul_eq,Nat.add_eq,Nat.add_assoc],c,e1,(0,0),q2,?_⟩;have h8:(m - l)*es+l*es<=n*es:=by rw [←Nat.add_mul];exact Nat.mul_le_mul_right _ (by omega)
     simp only [Nat.mul_eq,Nat.add_eq];omega
  ·cases hp
 ·cases hm
def DH (P:Program) (o:Oper) (es bytes:Nat) (zero:List AV) (n:aH):Bool:=match o.op with
 |.makeSlice t l c=>bn l n&&bn c n&&(ek P t fun d=>match d with|.slice e=>(tInfo P e fun i=>Nat.beq i.size es&&Nat.beq i.bytes bytes)&&Nat.blt 0 es&&Nat.beq zero.length es&&rX P e zero|_=>false)
 |_=>false
theorem G1 (s:bM top φ K h nx w) (hρ:∀x y,bn x y=true->aG φ K w (ρ y) (ρc x)) {es bytes:Nat} {zero:List AV} {n:aH} (hm:DH P o es bytes zero n=true) {p:aO} (hp:pE ρ es bytes zero n=some p):Sound top P φ K h nx w ρc o p:=by
 unfold DH at hm;split at hm
 ·rename_i t l c ho;simp only [Qk] at hm;obtain⟨⟨hml,hmc⟩,ht⟩:=hm;have hrl:=hρ _ _ hml;have hrc:=hρ _ _ hmc;obtain⟨d,hd,hd2⟩:=aX ht;have hk:∃e,P.underlying t=some (.slice e)/\((tInfo P e fun i=>Nat.beq i.size es&&Nat.beq i.bytes bytes)&&Nat.blt 0 es&&Nat.beq zero.length es&&rX P e zero)=true:=by cases d<;>first|exact⟨_,hd,hd2⟩|cases hd2
  obtain⟨e,hu,hk⟩:=hk;simp only [Qk,Qp,Qn] at hk;obtain⟨⟨⟨hti,hpos⟩,hzl⟩,hz⟩:=hk;obtain⟨i,hi,hi2⟩:=cS hti;simp only [Qk,Qn] at hi2;obtain⟨hes,hby⟩:=hi2;obtain⟨z,z1,z2,z3,z4⟩:=lG hz K w;unfold pE at hp;split at hp
  ·rename_i k mi hn;split at hp
   ·rename_i m hbd;simp only [cond_eq_ite,Qk,Qo] at hp;split at hp
    ·rename_i hc;cases hp;obtain⟨hk1,hb1⟩:=hc;obtain rfl:=oU hk1;obtain⟨rfl,qj2⟩:=n6 hbd;rw [hn] at hrl hrc;have hL:=c4 hrl;have hC:=c4 hrc;simp only [Nat.mul_eq,most] at hb1 qj2;have hzs:z.cells.size=es:=by omega
     refine lB s _ (rows m zero) ((Array.range (m*es)).map (z.cells[·% z.cells.size]!)) e (.slice (some ⟨w.heap.size,0,none⟩) m m) ?_ ?_ ?_ ?_
     ·simp only [execOp,ho];refine ep ?_;have hw:IntKind.i64.wrap (m:Int)=(m:Int):=by rw [←je];unfold cG;rw [cond_eq_ite,if_pos];simp only [IC,Qp];show m < 9223372036854775808;omega
      have e0:Array.range 0=#[]:=rfl;have hb2:¬((281474976710656:Int) < (bytes:Int)*(m:Int)):=by rw [Int.mul_comm,←Int.natCast_mul];omega
      have hb3:¬((m:Int) < 0):=by omega
      by_cases hm0:m*es=0
      ·rw [hm0];simp [Instr.makeSlice,run_underlying hu,hL,hC,asInt,asIntOf,typeInfo,hi,hby,hes,hw,hb2,hb3,sizeOf,hm0,newRow,e0]
      ·simp [Instr.makeSlice,run_underlying hu,hL,hC,asInt,asIntOf,typeInfo,hi,hby,hes,hw,hb2,hb3,sizeOf,hm0,newRow,z1]
     ·simp [rows,hzl]
     ·intro j y hy;have hj:j < m*es:=by
       rcases Nat.lt_or_ge j (m*es) with h'|h'
       ·exact h'
       ·rw [PZ (by simp [rows,hzl];omega)] at hy;cases hy
      rw [rows,vf zero m j (by rw [hzl];exact hj),hzl] at hy;obtain⟨r1,u,r2,r3⟩:=z4 _ y hy;refine⟨r1,u,?_,.pure r3⟩;rw [rW z.cells _ j (by omega) hj,hzs];exact r2
     ·exact .ref nx 0 0 es m m false w.heap.size 0 ⟨w.heap.size,0,none⟩ m (by simp) (Qy _) (Qy _) (fun h=>by cases h) (fun _=>⟨rfl,_,e,(0,0),jw w _,by simp⟩)
    ·cases hp
   ·cases hp
  ·cases hp
 ·cases hm
def HE (o:Oper) (mx:Bool) (xs:List aH):Bool:=match o.op with
 |.call {callee:=.builtin .min,args:=as,argTypes:=_}=>!mx&&pJ as.toList xs
 |.call {callee:=.builtin .max,args:=as,argTypes:=_}=>mx&&pJ as.toList xs
 |_=>false
theorem PD (b:Bool) (x y:Int):(match b with|true=>(bif od x y then y else x)|false=>(bif od y x then y else x))=(bif b then (if y > x then y else x) else (if y < x then y else x)):=by cases b<;>simp [iZ,cond_eq_ite]
theorem Aj (b:Bool) {f:Value->Value->Sem Value} (hf:∀k x k' y,f (.int k x) (.int k' y)=pure (.int k (bif b then (if y > x then y else x) else (if y < x then y else x)))) :
  ∀(xs:List AV) (Xs:List Value) (v:AV) (V:Value) (r:AV),aG φ K w v V->xs.length=Xs.length->(∀(j:Nat) (a:AV) (A:Value),xs[j]?=some a->Xs[j]?=some A->aG φ K w a A)->IB b v xs=some r->
   ∃R,(Xs.foldlM f V).run P w=.ok R w/\aG φ K w r R:=by
 intro xs
 induction xs with
 |nil=>
  intro Xs v V r hv hl _ hr;cases Xs with
  |nil=>cases hr;exact⟨V,rfl,hv⟩
  |cons _ _=>simp at hl
 |cons a xs ih=>
  intro Xs v V r hv hl qzq hr;cases Xs with
  |nil=>simp at hl
  |cons A Xs=>
   have hA:=qzq 0 a A rfl rfl;unfold IB at hr;split at hr
   ·rename_i heq;cases heq
   ·rename_i k x k' y rest heq;cases heq;rw [c4 hv,c4 hA];replace hr:IB b (.int k (bif b then (if y > x then y else x) else (if y < x then y else x))) xs=some r:=by rw [←PD];cases b<;>exact hr
    obtain⟨R,h1,h2⟩:=ih Xs _ (.int k (bif b then (if y > x then y else x) else (if y < x then y else x))) r (.pure (.int _ _)) (by simpa using hl) (fun j a A ha hA'=>qzq (j+1) a A (by simpa using ha) (by simpa using hA')) hr;exact⟨R,by simp [List.foldlM_cons,hf,h1],h2⟩
   ·cases hr
theorem oI (hρ:∀x y,bn x y=true->aG φ K w (ρ y) (ρc x)):∀{as:List Operand} {xs:List aH},pJ as xs=true->(xs.map ρ).length=(as.map ρc).length/\∀(j:Nat) (a:AV) (A:Value),(xs.map ρ)[j]?=some a->(as.map ρc)[j]?=some A->aG φ K w a A:=by
 intro as
 induction as with
 |nil=>intro xs h;cases xs with
  |nil=>exact⟨rfl,fun j a A ha=>by simp at ha⟩
  |cons _ _=>cases h
 |cons a as ih=>intro xs h;cases xs with
  |nil=>cases h
  |cons x xs=>
   simp only [pJ,Qk] at h;obtain⟨h1,h2⟩:=ih h.2;refine⟨by simpa using h1,fun j a' A' ha hA=>?_⟩;cases j with
   |zero=>simp at ha hA;subst ha;subst hA;exact hρ _ _ h.1
   |succ j=>exact h2 j a' A' (by simpa using ha) (by simpa using hA)
theorem I6 (s:bM top φ K h nx w) (hρ:∀x y,bn x y=true->aG φ K w (ρ y) (ρc x)) {mx:Bool} {xs:List aH} (hm:HE o mx xs=true) {p:aO} (hp:vl ρ mx xs=some p):Sound top P φ K h nx w ρc o p:=by
 unfold vl at hp;split at hp
 ·rename_i v vs hvs;obtain⟨r,hr,rfl⟩:=dw hp;unfold HE at hm;split at hm
  ·rename_i as tys ho;simp only [Qk,Qm] at hm;obtain⟨rfl,hm⟩:=hm;obtain⟨h1,h2⟩:=oI hρ hm;rw [hvs] at h1 h2;cases hX:as.toList.map ρc with
   |nil=>rw [hX] at h1;simp at h1
   |cons V Vs=>rw [hX] at h1 h2;obtain⟨R,r1,r2⟩:=Aj (P:=P) (φ:=φ) (K:=K) (w:=w) false (f:=Builtin.min2) (fun k x k' y=>rfl) vs Vs v V r (h2 0 v V rfl rfl) (by simpa using h1) (fun j a A ha hA=>h2 (j+1) a A (by simpa using ha) (by simpa using hA)) hr;refine aL s (V:=R) (eW (x:=Builtin.min_ tys o.type (as.map ρc)) ho (fun _=>by simp [builtin]) ?_) r2;simp [Builtin.min_,hX,r1]
  ·rename_i as tys ho;simp only [Qk] at hm;obtain⟨rfl,hm⟩:=hm;obtain⟨h1,h2⟩:=oI hρ hm;rw [hvs] at h1 h2;cases hX:as.toList.map ρc with
   |nil=>rw [hX] at h1;simp at h1
   |cons V Vs=>rw [hX] at h1 h2;obtain⟨R,r1,r2⟩:=Aj (P:=P) (φ:=φ) (K:=K) (w:=w) true (f:=Builtin.max2) (fun k x k' y=>rfl) vs Vs v V r (h2 0 v V rfl rfl) (by simpa using h1) (fun j a A ha hA=>h2 (j+1) a A (by simpa using ha) (by simpa using hA)) hr;refine aL s (V:=R) (eW (x:=Builtin.max_ tys o.type (as.map ρc)) ho (fun _=>by simp [builtin]) ?_) r2;simp [Builtin.max_,hX,r1]
  ·cases hm
 ·cases hp
end
end Go.Ax
namespace Go.Ax
theorem ei (d:Nat) (H:ay) (id g off es len cap:Nat) (ex:Bool):aP (d+1) H (.ref id g off es len cap ex)=(match H.get id with
    |some (.row g' cells)=>bif Nat.beq g' g then match cut cells off (Nat.mul len es) with
      |some cs=>match cw (aP d H) cs with
       |some cs=>some (.b6 cs len (Bool.rec none (some cap) ex))
       |none=>none
      |none=>none
     else none
    |_=>none):=rfl
theorem eV (d:Nat) (H:ay) (cs:List AV):aP (d+1) H (.agg cs)=(match cw (aP d H) cs with|some cs=>some (.agg cs)|none=>none):=rfl
theorem fy (d:Nat) (H:ay) (cs:List AV):aP (d+1) H (.dM cs)=(match cw (aP d H) cs with|some cs=>some (.dM cs)|none=>none):=rfl
theorem oL (d:Nat) (H:ay) (id g off es len cap:Nat) (ex:Bool):bt (d+1) H (.ref id g off es len cap ex)=(match H.get id with
    |some (.row _ cells)=>id::(match cut cells off (Nat.mul len es) with|some cs=>cs.flatMap (bt d H)|none=>[])
    |_=>[id]):=rfl
theorem uE (d:Nat) (H:ay) (cs:List AV):bt (d+1) H (.agg cs)=cs.flatMap (bt d H):=rfl
theorem uz (d:Nat) (H:ay) (cs:List AV):bt (d+1) H (.dM cs)=cs.flatMap (bt d H):=rfl
theorem Fo (d:Nat) (H:ay) (id g off es len cap:Nat) (ex:Bool):own (d+1) H (.ref id g off es len cap ex)=(match H.get id with
    |some (.row _ cells)=>match cut cells off (Nat.mul len es) with|some cs=>bz (own d H) cs|none=>false
    |_=>false):=rfl
theorem Af (d:Nat) (H:ay) (cs:List AV):own (d+1) H (.agg cs)=bz (own d H) cs:=rfl
theorem Ae (d:Nat) (H:ay) (cs:List AV):own (d+1) H (.dM cs)=bz (own d H) cs:=rfl
section
variable {top:Nat} {P:Program} {φ:fm} {K:Nat->Prop} {h:aW} {nx:Nat} {w:World} {H:ay}
theorem tH {d:Nat} {a a':AV} (ht:aP d H a=some a') (h1:a.one=true):a'.one=true:=by
 cases d with
 |zero=>cases ht
 |succ d=>
  cases a with
  |ref id g off es len cap ex=>
   rw [ei] at ht;split at ht
   ·rw [cond_eq_ite] at ht;split at ht
    ·split at ht
     ·split at ht
      ·cases ht;rfl
      ·cases ht
     ·cases ht
    ·cases ht
   ·cases ht
  |agg cs=>cases h1
  |dM cs=>cases h1
  |_=>cases ht<;>rfl
theorem lD {K1:Nat->Prop} (hK:∀b,K b->K1 b) {a:AV} {v:Value} (r:dL K w a v):dL K1 w a v:=r.keep hK (fun _ _=>rfl)
theorem lp (s:bM top φ K h nx w) (H:ay) (K1:Nat->Prop):∀(d:Nat) (v v':AV) (V:Value),aP d H v=some v'->
  (∀id,id∈bt d H v->h id=H.get id/\∀ob b base,h id=some ob->φ id (gen ob)=some (b,base)->K1 b)->((∀b,K b->K1 b)\/own d H v=true)->aG φ K w v V->dL K1 w v' V:=by
 intro d
 induction d with
 |zero=>intro v v' V ht;cases ht
 |succ d ih=>
  intro v v' V ht qxk hor hr;have qzi:∀(cs cs':List AV),cw (aP d H) cs=some cs'->(∀id,id∈cs.flatMap (bt d H)->h id=H.get id/\∀ob b base,h id=some ob->φ id (gen ob)=some (b,base)->K1 b)->
    ((∀b,K b->K1 b)\/bz (own d H) cs=true)->cs'.length=cs.length/\∀(j:Nat) (a':AV),cs'[j]?=some a'->∃a,cs[j]?=some a/\aP d H a=some a'/\∀V,aG φ K w a V->dL K1 w a' V:=by
   intro cs cs' hm hi ho;obtain⟨hl,hat⟩:=eY hm;refine⟨hl.symm,fun j a' ha'=>?_⟩;have hj:j < cs'.length:=(PV.1 ha').1;have hcs:cs[j]?=some cs[j]:=PU (by omega);obtain⟨b,hb1,hb2⟩:=hat j _ hcs;rw [ha'] at hb1;cases hb1;refine⟨_,hcs,hb2,fun V hV=>?_⟩;have hmem:cs[j]∈cs:=P4 hcs;refine ih _ _ V hb2 (fun id hid=>hi id (List.mem_flatMap.2 ⟨_,hmem,hid⟩)) ?_ hV;rcases ho with h1|h1
   ·exact .inl h1
   ·rw [aJ] at h1;exact .inr (h1 _ hmem)
  cases v with
  |bool b=>cases ht;rw [dH hr];exact .bool b
  |int k n=>cases ht;rw [c4 hr];exact .int k n
  |str x=>cases ht;rw [iG hr];exact .str x
  |jj=>cases ht;cases hr with|pure r=>cases r;exact .jj
  |ak=>cases ht;rw [cH hr];exact .ak
  |func f=>cases ht;rw [ni hr];exact .func f
  |ptr id g off=>cases ht
  |j5 id=>cases ht
  |fh cs off=>
   cases ht;rcases hor with h1|h1
   ·cases hr with|pure r=>exact lD h1 r
   ·cases h1
  |b6 cs n cap=>
   cases ht;rcases hor with h1|h1
   ·cases hr with|pure r=>exact lD h1 r
   ·cases cs with
    |nil=>obtain⟨ad,c',rfl,h2,h3,h4,h5⟩:=fM hr;exact .b6 [] n cap ad c' (fun _=>undef) (fun h=>absurd rfl h) h2 h3 (fun j a ha=>by simp at ha) (fun j hj=>by simp at hj) (fun j a ha=>by simp at ha)
    |cons c cs=>cases h1
  |agg cs=>
   rw [eV] at ht;split at ht
   ·rename_i cs' hm;cases ht;rw [Af] at hor;obtain⟨vs,rfl,hl,hc⟩:=iH hr;obtain⟨hl2,hat⟩:=qzi cs cs' hm (by rw [uE] at qxk;exact qxk) hor;refine .agg cs' vs (by omega) (fun j a' ha'=>?_) (fun j a' v ha' hv=>?_)
    ·obtain⟨a,q1,q2,_⟩:=hat j a' ha';exact tH q2 (hc j a q1).1
    ·obtain⟨a,q1,q2,q3⟩:=hat j a' ha';obtain⟨_,v1,v2,v3⟩:=hc j a q1;rw [hv] at v2;cases v2;exact q3 _ v3
   ·cases ht
  |dM cs=>
   rw [fy] at ht;split at ht
   ·rename_i cs' hm;cases ht;rw [Ae] at hor;obtain⟨vs,rfl,hl,hc⟩:=vg hr;obtain⟨hl2,hat⟩:=qzi cs cs' hm (by rw [uz] at qxk;exact qxk) hor;refine .dM cs' vs (by omega) (fun j a' v ha' hv=>?_);obtain⟨a,q1,q2,q3⟩:=hat j a' ha';obtain⟨v1,v2,v3⟩:=hc j a q1;rw [hv] at v2;cases v2;exact q3 _ v3
   ·cases ht
  |ref id g off es len cap ex=>
   rw [ei] at ht;rw [oL] at qxk;rw [Fo] at hor;cases hg:H.get id with
   |none=>rw [hg] at ht;cases ht
   |some ob=>
    rw [hg] at ht qxk hor;cases ob with
    |map es=>cases ht
    |row g' cells=>
     simp only [cond_eq_ite,Qn] at ht qxk hor;split at ht
     ·rename_i hgg;subst hgg;cases qxi:cut cells off (Nat.mul len es) with
      |none=>rw [qxi] at ht;cases ht
      |some cs=>
       rw [qxi] at ht qxk hor;simp only at ht qxk hor;split at ht
       ·rename_i cs' hm;cases ht;obtain⟨b,base,ad,c',rfl,hp1,hlc,hcc,qx3,had⟩:=dP hr;have hgh:h id=some (.row g' cells):=by rw [(qxk id (Qc ..)).1,hg]
        have hf:dg h (some ⟨id,g',off,Nat.mul len es⟩)=some cs:=by simp only [dg,hgh,cond_eq_ite,Qn,if_true];exact qxi
        obtain⟨b1,qq8,c,e,q1,q2,q3,q4,q5⟩:=fU s hf;rw [hp1] at q1;cases q1;simp only [Nat.mul_eq] at q3 q4;obtain⟨hl2,hat⟩:=qzi cs cs' hm (fun id' qxu=>qxk id' (Qd _ qxu)) hor;have hK1:K1 b:=(qxk id (Qc ..)).2 _ b base hgh (by simpa [gen] using hp1);have hne:cs'≠[]->c'≠0:=by
         intro hne h0;apply hne;apply List.eq_nil_of_length_eq_zero;have:len=0:=by omega
         rw [hl2,q4,this,Nat.zero_mul]
        refine .b6 cs' len _ ad c' (fun j=>c.getD (base+off+j) undef) (fun h=>?_) (by omega) (fun x hx=>?_) (fun j a' ha'=>?_) (fun j hj=>?_) (fun j a' ha'=>?_)
        ·obtain⟨rfl,_⟩:=had (hne h);exact⟨rfl,hK1⟩
        ·cases ex with
         |true=>cases hx;exact qx3 rfl
         |false=>cases hx
        ·obtain⟨a,p1,p2,_⟩:=hat j a' ha';exact tH p2 (q5 j a p1).1
        ·have qj0:cs'≠[]:=by rintro rfl;simp at hj
         obtain⟨rfl,_⟩:=had (hne qj0);rw [jV q2];have:base+off+j < c.size:=by omega
         simp [Array.getElem?_eq_getElem this]
        ·obtain⟨a,p1,p2,p3⟩:=hat j a' ha';obtain⟨_,v1,v2,v3⟩:=q5 j a p1;have hjl:base+off+j < c.size:=(Array.getElem?_eq_some_iff.1 v2).1;have:c.getD (base+off+j) undef=v1:=by rw [Array.getElem?_eq_getElem hjl] at v2;simp [hjl];exact Qv v2
         rw [this];exact p3 _ v3
       ·cases ht
     ·cases ht
end
end Go.Ax
namespace Go.Ax
def nF (P:Program) (o:Oper) (len:Nat) (zero:List AV) (parts:List (Nat×Nat×aH)):Bool:=match o.op with
 |.buildSlice t _ _=>ek P t fun d=>match d with|.slice e=>tInfo P e fun i=>Bp P o i.size len zero parts|_=>false
 |_=>false
def Gz (P:Program) (o:Oper) (ao:dV):Bool:=match ao with
 |.mv x=>M6 o x
 |.pick c a b=>DG o c a b
 |.alloc zero=>zj P o zero
 |.box x=>HL o x
 |.build zero parts=>zh P o zero parts
 |.eR es len zero parts=>Bp P o es len zero parts
 |.aQ len zero parts=>nF P o len zero parts
 |.load sz a=>DI P o sz a
 |.store sz a x=>za P o sz a x
 |.iN x=>zd o x
 |.bin op x y=>HM o op x y
 |.eq t neg x y=>M7 P o t neg x y
 |.un op x=>M5 o op x
 |.conv k x=>DL P o k x
 |.kG es bytes zero n=>DH P o es bytes zero n
 |.jY x lo hi=>zb P o x lo hi
 |.iR es x lo hi mx=>DF P o es x lo hi mx
 |.iE n es x lo hi mx=>zc P o n es x lo hi mx
 |.gR off x=>zf P o off x
 |.Bz off sz x=>HG P o off sz x
 |.bL es x i=>ze P o es x i
 |.kO len es x i=>DJ P o len es x i
 |.idx x i=>mIdx P o x i
 |.ext i x=>HH o i x
 |.app es bytes s x=>HN P o es bytes s x
 |.BY es d s=>HJ P o es d s
 |.EU es zero x=>HK P o es zero x
 |.len str x=>HF P o str x
 |.yw mx xs=>HE o mx xs
 |.mc=>false
 |.mb _ _ _ _ _=>false
 |.vp _ _ _ _=>false
 |.tE _=>false
 |.call f args _=>match o.op with
  |.call {callee:=.value (.func g),args:=as,argTypes:=_}=>Nat.beq g f&&pJ as.toList args
  |_=>false
 |.cN f args _=>match o.op with
  |.call {callee:=.value x,args:=as,argTypes:=_}=>bn x f&&pJ as.toList args
  |_=>false
section
variable {top:Nat} {P:Program} {φ:fm} {K:Nat->Prop} {h:aW} {nx:Nat} {w:World} {ρ:aH->AV} {ρc:Operand->Value} {o:Oper}
theorem Ct (s:bM top φ K h nx w) (hρ:∀x y,bn x y=true->aG φ K w (ρ y) (ρc x)) {ao:dV} (hm:Gz P o ao=true) {pf:(aH->AV)->Option aO} (hk:kind ao=.plan pf) {p:aO} (hp:pf ρ=some p):Sound top P φ K h nx w ρc o p:=by
 cases ao with
 |mv x=>cases hk;cases hp;exact LQ s hρ hm
 |pick c a b=>cases hk;exact GZ s hρ hm hp
 |alloc zero=>cases hk;cases hp;exact Fh s hm
 |box x=>cases hk;exact Jc s hρ hm hp
 |build zero parts=>cases hk;exact Fg s hρ hm hp
 |eR es len zero parts=>cases hk;exact Cu s hρ hm hp
 |aQ len zero parts=>
  cases hk;have hm':nF P o len zero parts=true:=hm;unfold nF at hm';split at hm'
  ·obtain⟨d,_,hd⟩:=aX hm';split at hd
   ·obtain⟨i,_,hi⟩:=cS hd;exact wG s (fun x y _=>hρ x y) hi hp
   ·cases hd
  ·cases hm'
 |load sz a=>cases hk;exact G4 s hρ hm hp
 |store sz a x=>cases hk;exact E_ s hρ hm hp
 |iN x=>cases hk;exact Fc s hρ hm hp
 |bin op x y=>cases hk;exact Jd s hρ hm hp
 |eq t neg x y=>cases hk;exact LR s hρ hm hp
 |un op x=>cases hk;exact LP s hρ hm hp
 |conv k x=>cases hk;exact G6 s hρ hm hp
 |kG es bytes zero n=>cases hk;exact G1 s hρ hm hp
 |jY x lo hi=>cases hk;exact Fa s hρ hm hp
 |iR es x lo hi mx=>cases hk;exact GY s hρ hm hp
 |iE n es x lo hi mx=>cases hk;exact Fb s hρ hm hp
 |gR off x=>cases hk;exact Ff s hρ hm hp
 |Bz off sz x=>cases hk;exact I9 s hρ hm hp
 |bL es x i=>cases hk;exact Fe s hρ hm hp
 |kO len es x i=>cases hk;exact G5 s hρ hm hp
 |idx x i=>cases hk;exact I8 s hρ hm hp
 |ext i x=>cases hk;exact I_ s hρ hm hp
 |app es bytes a x=>cases hk;exact Je s hρ hm hp
 |BY es d a=>cases hk;exact Ja s hρ hm hp
 |EU es zero x=>cases hk;exact Jb s hρ hm hp
 |len str x=>cases hk;exact I7 s hρ hm hp
 |yw mx xs=>cases hk;exact I6 s hρ hm hp
 |mc=>cases hm
 |mb _ _ _ _ _=>cases hm
 |vp _ _ _ _=>cases hm
 |tE _=>cases hm
 |call f args m=>cases hk
 |cN f args m=>cases hk
def Ends (top:Nat) (φ:fm) (K:Nat->Prop) (h:aW) (nx:Nat) (w:World) (v:AV) (h':aW) (nx':Nat) (V:Value) (w':World):Prop:=
 ∃φ' K',cq top φ K h nx w φ' K' h' nx' w'/\aG φ' K' w' v V
def EL (top:Nat) (P:Program) (φ:fm) (K:Nat->Prop) (h:aW) (nx:Nat) (w:World) (o:Oper) (a:Act) (v:AV) (h':aW) (nx':Nat):Prop:=
 ∀(next:Act->World->Prop) (Q:Exit->Act->World->Prop),(∀V w',Ends top φ K h nx w v h' nx' V w'->next (a.put o.dst V) w')->o.wp P a w next Q
theorem mI {a:Act} {p:aO} (hs:Sound top P φ K h nx w a.eval o p) {v:AV} {h':aW} {nx':Nat} (hr:oq p h nx=some (v,h',nx')) (ht:nx'<=top):EL top P φ K h nx w o a v h' nx':=by
 intro next Q hn;obtain⟨V,w',φ',K',hrun,hg,hv⟩:=hs v h' nx' hr ht;unfold Oper.wp;rcases hrun with hrun|⟨hrun,rfl⟩
 ·rw [hrun];exact hn V w' ⟨φ',K',hg,hv⟩
 ·rw [hrun];exact hn undef w' ⟨φ',K',hg,hv⟩
theorem gY:∀(ids:List Nat) (H:ay) (id:Nat),(drop H ids).get id=if id∈ids then none else H.get id
 |[],H,id=>by simp [drop]
 |i::ids,H,id=>by
  rw [drop,gY ids,Map.au];by_cases h1:id∈ids
  ·rw [if_pos h1,if_pos (Qd _ h1)]
  ·rw [if_neg h1];by_cases h2:id=i
   ·rw [if_pos h2,if_pos (by rw [h2];exact Qc ..)]
   ·rw [if_neg h2,if_neg (by simp [h1,h2])]
def Of (φ:fm) (h:aW) (ids:List Nat) (b:Nat):Prop:=∃id,id∈ids/\∃ob base,h id=some ob/\φ id (gen ob)=some (b,base)
theorem xQ (s:bM top φ K h nx w) (ids:List Nat) (h':aW) (hd:∀id,h' id=if id∈ids then none else h id):cq top φ K h nx w φ (fun b=>K b\/Of φ h ids b) h' nx w:=by
 have hsub:∀id ob,h' id=some ob->h id=some ob/\id ∉ ids:=by
  intro id ob hh;rw [hd] at hh;split at hh
  ·cases hh
  ·rename_i hn;exact⟨hh,hn⟩
 have qx8:∀b,s_ φ h' b->s_ φ h b:=fun b ⟨id,ob,base,h1,h2⟩=>⟨id,ob,base,(hsub _ _ h1).1,h2⟩
 have hval:∀{a:AV} {v:Value},aG φ K w a v->aG φ (fun b=>K b\/Of φ h ids b) w a v:=fun r=>aG.keep (fun _ _ _ h=>h) (fun _ h=>.inl h) (fun _ _=>rfl) (fun _ c _ _ h=>⟨c,h,rfl⟩) r
 refine⟨fun _ _ _ h=>h,fun _ h=>.inl h,⟨fun b hb=>?_,fun id g cells hh=>?_,fun id es hh=>?_,fun id id' ob ob' b base base' h1 h2=>s.inj id id' ob ob' b base base' (hsub _ _ h1).1 (hsub _ _ h2).1,fun id ob hh=>s.low id ob (hsub _ _ hh).1,s.new⟩,
  Ext.refl _ _,fun b hb=>.inl (qx8 b hb),fun b hb=>?_,fun _ _ _ h=>.inl h,fun id hi=>?_,Qy _⟩
 ·rcases hb with hb|⟨id,hid,ob,base,h1,h2⟩
  ·exact⟨(s.j8 b hb).1,fun hm=>(s.j8 b hb).2 (qx8 b hm)⟩
  ·refine⟨ew s h1 h2,fun ⟨id',ob',base',h3,h4⟩=>?_⟩;have:=s.inj id id' ob ob' b base base' h1 (hsub _ _ h3).1 h2 h4;subst this;exact(hsub _ _ h3).2 hid
 ·obtain⟨b,base,c,e,h1,h2,h3,h4⟩:=s.row id g cells (hsub _ _ hh).1;exact⟨b,base,c,e,h1,h2,h3,fun j a ha=>⟨(h4 j a ha).1,let ⟨v,a1,a2⟩:=(h4 j a ha).2;⟨v,a1,hval a2⟩⟩⟩
 ·obtain⟨b,mes,clk,h1,h2,h3,h4⟩:=s.map id es (hsub _ _ hh).1;exact⟨b,mes,clk,h1,h2,h3,fun j k v hj=>let ⟨me,m1,m2,m3⟩:=h4 j k v hj;⟨me,m1,hval m2,hval m3⟩⟩
 ·rcases hb with hb|⟨id,_,ob,base,h1,h2⟩
  ·exact .inl hb
  ·exact .inr (.inr ⟨id,ob,base,h1,h2⟩)
 ·cases hh:h' id with
  |none=>rw [hh] at hi;cases hi
  |some ob=>rw [(hsub _ _ hh).1];exact .inl rfl
theorem cq.from {φ1:fm} {K1:Nat->Prop} {h1:aW} {oc:Nat} {w1:World} (g:cq top φ K h nx w φ1 K1 h1 oc w1) {v:AV} {h':aW} {nx':Nat} {V:Value} {w':World} (e:Ends top φ1 K1 h1 oc w1 v h' nx' V w'):Ends top φ K h nx w v h' nx' V w':=
 let ⟨φ',K',g',r⟩:=e;⟨φ',K',g.trans g',r⟩
theorem xg {a:Act} {H:ay} (s:bM top φ K h nx w) (hρ:∀x y,bn x y=true->aG φ K w (ρ y) (a.eval x)) {len:Nat} {zero:List AV} {parts:List (Nat×Nat×aH)} (hm:nF P o len zero parts=true)
  (hH:∀id,id∈(parts.map fun p=>ρ p.2.2).flatMap (bt deep H)->h id=H.get id)
  {vs:List AV} (hall:cw (aP deep H) (parts.map fun p=>ρ p.2.2)=some vs) {v:AV} (hp:c5 (mR H ρ) len zero parts=some (.val v)) (ht:nx<=top) :
  EL top P φ K h nx w o a v (fun id=>if id∈(parts.map fun p=>ρ p.2.2).flatMap (bt deep H) then none else h id) nx:=by
 have hg:=xQ s ((parts.map fun p=>ρ p.2.2).flatMap (bt deep H)) (fun id=>if id∈(parts.map fun p=>ρ p.2.2).flatMap (bt deep H) then none else h id) (fun id=>rfl);have hρ':∀x y,y∈parts.map (·.2.2)->bn x y=true->aG φ (fun b=>K b\/Of φ h ((parts.map fun p=>ρ p.2.2).flatMap (bt deep H)) b) w (mR H ρ y) (a.eval x):=by
  intro x y hy hxy;obtain⟨pt,hpt,rfl⟩:=Qi.1 hy;have hmem:ρ pt.2.2∈parts.map fun p=>ρ p.2.2:=Qi.2 ⟨pt,hpt,rfl⟩
  obtain⟨j,hj,hjj⟩:=List.getElem_of_mem hmem;obtain⟨_,hat⟩:=eY hall;obtain⟨v',_,hv'⟩:=hat j _ (by rw [PU hj,hjj]);unfold mR;rw [hv'];refine .pure (lp s H _ deep _ _ _ hv' (fun id hid=>⟨hH id (List.mem_flatMap.2 ⟨_,hmem,hid⟩),fun ob b base h1 h2=>.inr ⟨id,List.mem_flatMap.2 ⟨_,hmem,hid⟩,ob,base,h1,h2⟩⟩) (.inl fun b hb=>.inl hb) (hρ _ _ hxy))
 have hs:Sound top P φ (fun b=>K b\/Of φ h ((parts.map fun p=>ρ p.2.2).flatMap (bt deep H)) b) (fun id=>if id∈(parts.map fun p=>ρ p.2.2).flatMap (bt deep H) then none else h id) nx w a.eval o (.val v):=by
  unfold nF at hm;split at hm
  ·obtain⟨d,_,hd⟩:=aX hm;split at hd
   ·obtain⟨i,_,hi⟩:=cS hd;exact wG hg.nc hρ' hi hp
   ·cases hd
  ·cases hm
 intro next Q hn;exact mI hs (nx':=nx) rfl ht next Q (fun V w' e=>hn V w' (hg.from e))
end
end Go.Ax
namespace Go.Ax
def td (φ:fm) (K:Nat->Prop) (w:World) (args:List AV) (cargs:Array Value):Prop:=args.length=cargs.size/\∀(j:Nat) (a:AV) (V:Value),args[j]?=some a->cargs[j]?=some V->aG φ K w a V
def It (R:Value->World->Prop):Ending->World->Prop
 |.returned V,w=>R V w
 |_,_=>False
def j7 (P:Program) (cf:eI):Prop:=∀f args H nx v H' nx',cf f args H nx=some (v,H',nx')->
 (∀args w,(callFunc f args).run P w=.ok (.enter f args) w)/\
 ∀top φ K w cargs,nx'<=top->bM top φ K H.get nx w->td φ K w args cargs->Calls P f cargs w (It (Ends top φ K H.get nx w v H'.get nx'))
section
variable {top:Nat} {P:Program} {φ:fm} {K:Nat->Prop} {h:aW} {nx:Nat} {w:World} {H:ay} {ρ:aH->AV} {ρc:Operand->Value} {o:Oper}
theorem rG {a:AV} {v:Value} (hf:a.eN=true) (r:aG φ K w a v):dL K w a v:=by
 cases a with
 |agg cs=>have hf':bz AV.flat cs=true:=hf;rw [aJ] at hf';obtain⟨vs,rfl,hl,hc⟩:=iH r;refine .agg cs vs hl (fun j a ha=>(hc j a ha).1) (fun j a v ha hv=>?_);obtain⟨_,u,h1,h2⟩:=hc j a ha;rw [hv] at h1;cases h1;exact sF (hf' a (P4 ha)) h2
 |dM cs=>cases hf
 |_=>exact sF hf r
theorem tT {a:AV} {v:Value} (hf:a.plain=true) (r:aG φ K w a v):dL K w a v:=by
 cases a with
 |dM cs=>have hf':bz AV.eN cs=true:=hf;rw [aJ] at hf';obtain⟨vs,rfl,hl,hc⟩:=vg r;refine .dM cs vs hl (fun j a v ha hv=>?_);obtain⟨u,h1,h2⟩:=hc j a ha;rw [hv] at h1;cases h1;exact rG (hf' a (P4 ha)) h2
 |_=>exact rG hf r
def t_:fm:=fun _ _=>none
theorem mJ {φ:fm} {b:Nat}:¬s_ φ (Map.leaf:ay).get b:=fun ⟨_,_,_,h,_⟩=>by cases h
theorem qJ {t:Nat} (K0:Nat->Prop) (hk:∀b,K0 b->b < w.heap.size):bM t t_ K0 (Map.leaf:ay).get 0 w:=
 ⟨fun b hb=>⟨hk b hb,mJ⟩,fun id g cells hh=>(by cases hh),fun id es hh=>(by cases hh),fun id id' ob ob' b base base' h1=>(by cases h1),fun id ob hh=>(by cases hh),fun _ _ _ _=>rfl⟩
theorem uG (s:bM top φ K h nx w) {w':World} (e:Ext (fun _=>False) w w') (K':Nat->Prop) (h1:∀b,K b->K' b) (h2:∀b,K' b->b < w'.heap.size) (h3:∀b,K' b->K b\/w.heap.size<=b):cq top φ K h nx w φ K' h nx w':=by
 have hsame:∀b,b < w.heap.size->w'.heap[b]?=w.heap[b]?:=fun b hb=>e.same b hb (fun h=>h)
 have hval:∀{a:AV} {v:Value},aG φ K w a v->aG φ K' w' a v:=fun r=>aG.keep (fun _ _ _ h=>h) h1 (fun b hb=>hsame b (s.j8 b hb).1) e.shape r
 have qzh:∀b,s_ φ h b->b < w.heap.size:=fun b ⟨id,ob',base,h1,h2⟩=>ew s h1 h2
 refine⟨fun _ _ _ h=>h,h1,⟨fun b hb=>⟨h2 b hb,fun hm=>?_⟩,fun id g cells hh=>?_,fun id es hh=>?_,s.inj,s.low,s.new⟩,e.mono (fun _ h=>h.elim),fun b hb=>.inl hb,fun b hb=>?_,fun _ _ _ h=>.inl h,fun _ h=>.inl h,Qy _⟩
 ·rcases h3 b hb with h4|h4
  ·exact(s.j8 b h4).2 hm
  ·exact Nat.lt_irrefl _ (Qs (qzh b hm) h4)
 ·obtain⟨b,base,c,e',q1,q2,q3,q4⟩:=s.row id g cells hh;refine⟨b,base,c,e',q1,by rw [hsame b (Array.getElem?_eq_some_iff.1 q2).1];exact q2,q3,fun j a ha=>⟨(q4 j a ha).1,?_⟩⟩;obtain⟨v,hv1,hv2⟩:=(q4 j a ha).2;exact⟨v,hv1,hval hv2⟩
 ·obtain⟨b,mes,clk,q1,q2,q3,q4⟩:=s.map id es hh;refine⟨b,mes,clk,q1,by rw [hsame b (Array.getElem?_eq_some_iff.1 q2).1];exact q2,q3,fun j k v hj=>?_⟩;obtain⟨me,m1,m2,m3⟩:=q4 j k v hj;exact⟨me,m1,hval m2,hval m3⟩
 ·rcases h3 b hb with h4|h4
  ·exact .inl h4
  ·exact .inr (.inl h4)
theorem k4 {cf:eI} (hcf:j7 P cf) (s:bM top φ K h nx w) {H:ay} (hH:∀id o,H.get id=some o->h id=some o) {f:Nat} {args:List AV} {v:AV} {cargs:Array Value} (ha:td φ K w args cargs)
  (hd:(bz AV.plain args=true/\d_ (cf f args .leaf 0) false=some v)\/∃as,cw (aP deep H) args=some as/\d_ (cf f as .leaf 0) true=some v) :
  (∀args w,(callFunc f args).run P w=.ok (.enter f args) w)/\Calls P f cargs w (It (Ends top φ K h nx w v h nx)):=by
 rcases hd with ⟨hpl,hr⟩|⟨as,has,hr⟩
 ·rw [aJ] at hpl;unfold d_ at hr;split at hr
  ·cases hr
  ·rename_i r0 Hc nxc qxc;simp only [cond_false] at hr;obtain⟨h1,h2⟩:=hcf f args .leaf 0 r0 Hc nxc qxc;refine⟨h1,?_⟩;have hs:=h2 nxc t_ K w cargs (Qy _) (qJ K (fun b hb=>(s.j8 b hb).1)) ⟨ha.1,fun j a V hj hV=>.pure (tT (hpl a (P4 hj)) (ha.2 j a V hj hV))⟩;refine Calls.mono hs (fun e w' he=>?_);cases e with
   |returned V=>
    obtain⟨φc,Kc,g,hV⟩:=he;have qzh:∀b,s_ φc Hc.get b->b < w'.heap.size:=fun b ⟨id,ob',base,h1,h2⟩=>ew g.nc h1 h2
    have hg:=uG s (w':=w') (g.ext.mono (fun b hb=>(mJ hb).elim)) (fun b=>Kc b\/s_ φc Hc.get b) (fun b hb=>.inl (g.k b hb)) (fun b hb=>hb.elim (fun h=>(g.nc.j8 b h).1) (qzh b)) (fun b hb=>by
     rcases hb with hb|hb
     ·rcases g.tw b hb with h3|h3|h3
      ·exact .inl h3
      ·exact .inr h3
      ·exact(mJ h3).elim
     ·rcases g.mu b hb with h3|h3
      ·exact(mJ h3).elim
      ·exact .inr h3)
    refine⟨φ,_,hg,.pure ?_⟩;rw [cond_eq_ite] at hr;split at hr
    ·rename_i hpr;cases hr;exact lD (fun b hb=>.inl hb) (tT hpr hV)
    ·exact lp g.nc Hc _ deep _ _ _ hr (fun id _=>⟨rfl,fun ob b base h1 h2=>.inr ⟨id,ob,base,h1,h2⟩⟩) (.inl fun b hb=>.inl hb) hV
   |panicked _=>exact he.elim
   |outgrown=>exact he.elim
 ·unfold d_ at hr;split at hr
  ·cases hr
  ·rename_i r0 Hc nxc qxc;simp only [cond_true] at hr;rw [cond_eq_ite] at hr;split at hr
   ·rename_i hown;obtain⟨h1,h2⟩:=hcf f as .leaf 0 r0 Hc nxc qxc;refine⟨h1,?_⟩;obtain⟨hl,hat⟩:=eY has;have sH:=s.part hH;have hs:=h2 nxc t_ (fun b=>b < w.heap.size) w cargs (Qy _) (qJ _ (fun b hb=>hb)) ⟨by rw [←hl];exact ha.1,fun j a' V hj hV=>by
     have hj':j < args.length:=by have:=(PV.1 hj).1;omega
     obtain⟨y,hy1,hy2⟩:=hat j _ (PU hj');rw [hj] at hy1;cases hy1;exact .pure (lp sH H _ deep _ _ _ hy2 (fun id _=>⟨rfl,fun ob b base h1 h2=>ew sH h1 h2⟩) (.inl fun b hb=>(s.j8 b hb).1) (ha.2 j _ V (PU hj') hV))⟩
    refine Calls.mono hs (fun e w' he=>?_);cases e with
    |returned V=>
     obtain⟨φc,Kc,g,hV⟩:=he;have qzh:∀b,s_ φc Hc.get b->b < w'.heap.size:=fun b ⟨id,ob',base,h1,h2⟩=>ew g.nc h1 h2
     have hg:=uG s (w':=w') (g.ext.mono (fun b hb=>(mJ hb).elim)) (fun b=>K b\/s_ φc Hc.get b) (fun b hb=>.inl hb) (fun b hb=>hb.elim (fun h=>Qs (s.j8 b h).1 g.ext.size) (qzh b)) (fun b hb=>by
      rcases hb with hb|hb
      ·exact .inl hb
      ·rcases g.mu b hb with h3|h3
       ·exact(mJ h3).elim
       ·exact .inr h3)
     refine⟨φ,_,hg,.pure ?_⟩;exact lD (fun b hb=>.inr hb) (lp g.nc Hc (s_ φc Hc.get) deep _ _ _ hr (fun id _=>⟨rfl,fun ob b base h1 h2=>⟨id,ob,base,h1,h2⟩⟩) (.inr hown) hV)
    |panicked _=>exact he.elim
    |outgrown=>exact he.elim
   ·cases hr
theorem jc {cf:eI} {f:Nat} {args:List AV} {v:AV} {H':ay} {nx':Nat} (hd:bK cf f args .borrow H nx=some (v,H',nx')) :
  H'=H/\nx'=nx/\((bz AV.plain args=true/\d_ (cf f args .leaf 0) false=some v)\/∃as,cw (aP deep H) args=some as/\d_ (cf f as .leaf 0) true=some v):=by
 simp only [bK,cond_eq_ite] at hd;split at hd
 ·rename_i hpl;split at hd
  ·rename_i r hr;cases hd;exact⟨rfl,rfl,.inl ⟨hpl,hr⟩⟩
  ·cases hd
 ·split at hd
  ·cases hd
  ·rename_i as has;split at hd
   ·rename_i r hr;cases hd;exact⟨rfl,rfl,.inr ⟨as,has,hr⟩⟩
   ·cases hd
theorem sY {cf:eI} (hcf:j7 P cf) (s:bM top φ K H.get nx w) {f:Nat} {args:List AV} {m:Mode} {v:AV} {H':ay} {nx':Nat} (hd:bK cf f args m H nx=some (v,H',nx')) (ht:nx'<=top) {cargs:Array Value} (ha:td φ K w args cargs) :
  (∀args w,(callFunc f args).run P w=.ok (.enter f args) w)/\Calls P f cargs w (It (Ends top φ K H.get nx w v H'.get nx')):=by
 cases m with
 |share=>obtain⟨h1,h2⟩:=hcf f args H nx v H' nx' hd;exact⟨h1,h2 top φ K w cargs ht s ha⟩
 |borrow=>obtain⟨rfl,rfl,hc⟩:=jc hd;exact k4 hcf s (H:=H') (fun _ _ h=>h) ha hc
theorem n7 (hρ:∀x y,bn x y=true->aG φ K w (ρ y) (ρc x)) {as:Array Operand} {xs:List aH} (hm:pJ as.toList xs=true):td φ K w (xs.map ρ) (as.map ρc):=by obtain⟨h1,h2⟩:=oI hρ hm;refine⟨by simpa using h1,fun j a V ha hV=>h2 j a V ha ?_⟩;rw [←hV];simp
theorem jK {a:Act} {f:Nat} {as:Array Operand} (qxc:∀args w,(callFunc f args).run P w=.ok (.enter f args) w) (hrun:(execOp a.eval o).run P w=(callFunc f (as.map a.eval)).run P w) {v:AV} {h':aW} {nx':Nat} (hc:Calls P f (as.map a.eval) w (It (Ends top φ K h nx w v h' nx'))) :
  EL top P φ K h nx w o a v h' nx':=by
 intro next Q hn;unfold Oper.wp;rw [hrun,qxc,Oper.upon_enter];refine Calls.mono hc (fun e w' he=>?_);cases e with
 |returned V=>exact hn V w' he
 |panicked _=>exact he.elim
 |outgrown=>exact he.elim
theorem Dr {cf:eI} (hcf:j7 P cf) (s:bM top φ K H.get nx w) {a:Act} (hρ:∀x y,bn x y=true->aG φ K w (ρ y) (a.eval x)) {ao:av} (hm:Gz P o ao.op=true) {v:AV} {H':ay} {nx':Nat} (hd:jb cf ao ρ H nx=some (v,H',nx')) (ht:nx'<=top) :
  EL top P φ K H.get nx w o a v H'.get nx':=by
 unfold jb at hd;rw [cond_eq_ite] at hd;split at hd
 ·split at hd
  ·rename_i len zero parts hop;split at hd
   ·cases hd
   ·rename_i vs hvs;split at hd
    ·rename_i v' hp;cases hd;rw [hop] at hm;have:=xg s hρ hm (fun _ _=>rfl) hvs hp ht;have e:(drop H ((parts.map fun p=>ρ p.2.2).flatMap (bt deep H))).get=fun id=>if id∈(parts.map fun p=>ρ p.2.2).flatMap (bt deep H) then none else H.get id:=funext fun id=>gY _ H id
     rw [e];exact this
    ·cases hd
  ·cases hd
 ·unfold fj at hd;split at hd
  ·rename_i pf hk;split at hd
   ·rename_i p hp;exact mI (Ct s hρ hm hk hp) (tN hd) ht
   ·cases hd
  ·rename_i f args m hk;have hop:ao.op=.call f args m:=by cases hop:ao.op<;>rw [hop] at hk<;>cases hk;rfl
   rw [hop] at hm;simp only [Gz] at hm;split at hm
   ·rename_i g as tys ho;simp only [Qk,Qn] at hm;obtain⟨rfl,hm⟩:=hm;obtain⟨h1,h2⟩:=sY hcf s hd ht (n7 hρ hm);refine jK (as:=as) h1 ?_ h2;simp [execOp,ho,resolve,Deferred.ofValue,invoke,Act.eval]
   ·cases hm
  ·rename_i f args m hk;have hop:ao.op=.cN f args m:=by cases hop:ao.op<;>rw [hop] at hk<;>cases hk;rfl
   rw [hop] at hm;simp only [Gz] at hm;split at hd
   ·rename_i g hg;split at hm
    ·rename_i x as tys ho;simp only [Qk] at hm;obtain⟨hx,hm⟩:=hm;have hf:=hρ _ _ hx;rw [hg] at hf;have hX:=ni hf;obtain⟨h1,h2⟩:=sY hcf s hd ht (n7 hρ hm);refine jK (as:=as) h1 ?_ h2;simp [execOp,ho,resolve,Deferred.ofValue,invoke,hX]
    ·cases hm
   ·cases hd
end
end Go.Ax
namespace Go.Ax
def lZ (φ:fm) (K:Nat->Prop) (w:World) (e:Env) (a:Act):Prop:=∀t,aG φ K w (ev e (.t t)) (a.tmps.getD t undef)
def lY (cf:eI):Prop:=∀f args H nx v H' nx',cf f args H nx=some (v,H',nx')->nx<=nx'
def JN (ops:Array Oper):Option (Nat×Bool)->Option (Nat×Bool)->Bool
 |none,none=>true
 |some (j,b),some (t,b')=>(b == b')&&(match (ops[j]?).bind (·.dst) with|some t'=>Nat.beq t' t|none=>false)
 |_,_=>false
def HI:Option Nat->Option Nat->Bool
 |none,none=>true
 |some a,some b=>Nat.beq a b
 |_,_=>false
def rZ (P:Program) (ops:Array Oper) (o:Oper) (ao:av):Bool:=HI o.dst ao.dst&&JN ops o.guard ao.gd&&Gz P o ao.op
def mL (P:Program) (ops:Array Oper):List Oper->List av->Bool
 |[],[]=>true
 |o::l,ao::al=>rZ P ops o ao&&mL P ops l al
 |_,_=>false
theorem Al {a b:Option Nat} (h:HI a b=true):a=b:=by
 cases a<;>cases b<;>first|rfl|cases h|skip
 simp only [HI,Qn] at h;rw [h]
section
variable {top:Nat} {P:Program} {φ:fm} {K:Nat->Prop} {h:aW} {nx:Nat} {w:World} {H:ay} {o:Oper} {nt:Nat} {cf:eI}
theorem lZ.Lu {e:Env} {a:Act} (he:lZ φ K w e a):∀x y,bn x y=true->aG φ K w (ev e y) (a.eval x):=by
 intro x y hm;unfold bn at hm;split at hm
 ·rw [Qn] at hm;subst hm;exact he _
 ·exact .pure (rY hm K w).1
 ·rw [Qn] at hm;subst hm;exact .pure (.func _)
 ·cases hm
theorem lZ.keep {φ':fm} {K':Nat->Prop} {h':aW} {nx':Nat} {w':World} {e:Env} {a:Act} (he:lZ φ K w e a) (s:bM top φ K h nx w) (g:cq top φ K h nx w φ' K' h' nx' w'):lZ φ' K' w' e a:=fun t=>g.val s (he t)
theorem zx (e:Env) (v:AV) (d t:Nat):ev (e.put (some v) d) (.t t)=if t=d then v else ev e (.t t):=by
 simp only [ev,Map.au];by_cases h:t=d
 ·rw [if_pos h,if_pos h]
 ·rw [if_neg h,if_neg h]
theorem wX {e e':Env} {d:Option Nat} {v:AV} {V:Value} {a:Act} (he:lZ φ K w e a) (hs:a.tmps.size=nt) (hp:rz nt e d v=some e') (hv:aG φ K w v V):lZ φ K w e' (a.put d V)/\(a.put d V).tmps.size=nt/\(a.put d V).defers=a.defers:=by
 cases d with
 |none=>cases hp;exact⟨he,hs,rfl⟩
 |some d=>
  simp only [rz,cond_eq_ite,Qp] at hp;split at hp
  ·rename_i hd;cases hp;refine⟨fun t=>?_,by simp [Act.put,hs],rfl⟩;rw [zx];simp only [Act.put,Array.getD_eq_getD_getElem?,Array.getElem?_setIfInBounds];by_cases ht:t=d
   ·subst ht;rw [if_pos rfl,if_pos rfl,if_pos (by omega)];exact hv
   ·rw [if_neg ht,if_neg (fun h=>ht h.symm)];have:=he t;rwa [Array.getD_eq_getD_getElem?] at this
  ·cases hp
theorem jH {a:AV} {b:Bool} (r:aG φ K w a (.bool b)):a=.bool b:=by
 cases r with
 |pure r=>cases r;rfl
theorem A8 {e:Env} {a:Act} (he:lZ φ K w e a) {ops:Array Oper} {gd:Option (Nat×Bool)} (hm:JN ops o.guard gd=true):Region.wanted o (yielded ops a.tmps)=wanted e gd:=by
 unfold Region.wanted;cases hg:o.guard with
 |none=>
  rw [hg] at hm;cases gd with
  |none=>rfl
  |some p=>cases hm
 |some p=>
  obtain⟨j,b⟩:=p;rw [hg] at hm;cases gd with
  |none=>cases hm
  |some q=>
   obtain⟨t,b'⟩:=q;simp only [JN,Qk,beq_iff_eq] at hm;obtain⟨rfl,hm⟩:=hm;split at hm
   ·rename_i t' ht';rw [Qn] at hm;subst hm;have hr:=he t';rw [Array.getD_eq_getD_getElem?] at hr;simp only [yielded,ht',Option.bind_some,wanted];cases qq9:e.get t' with
    |none=>
     have hev:ev e (.t t')=c8:=by simp [ev,qq9]
     rw [hev] at hr;split
     ·rename_i x hx;rw [hx] at hr;cases jH hr
     ·rfl
    |some v=>
     have hev:ev e (.t t')=v:=by simp [ev,qq9]
     rw [hev] at hr;split
     ·rename_i x hx;rw [hx] at hr;have:=jH hr;subst this;simp
     ·rename_i hx;cases v with
      |bool x=>
       exfalso;cases hc:a.tmps[t']? with
       |none=>rw [hc] at hr;have hr2:=dH hr;cases hr2
       |some V=>rw [hc] at hr;have hr2:=dH hr;simp at hr2;subst hr2;exact hx x hc
      |_=>rfl
   ·cases hm
def Post (top:Nat) (φ:fm) (K:Nat->Prop) (st:St) (w:World) (nt:Nat) (st':St) (a':Act) (w':World):Prop:=
 ∃φ' K',cq top φ K st.H.get st.nx w φ' K' st'.H.get st'.nx w'/\lZ φ' K' w' st'.env a'/\a'.tmps.size=nt/\a'.defers=[]
theorem uP (hcf:lY cf) {f:Nat} {args:List AV} {m:Mode} {v:AV} {H':ay} {nx':Nat} (hd:bK cf f args m H nx=some (v,H',nx')):nx<=nx':=by
 cases m with
 |share=>exact hcf _ _ _ _ _ _ _ hd
 |borrow=>
  simp only [bK,cond_eq_ite] at hd;split at hd
  ·split at hd
   ·cases hd;exact Qy _
   ·cases hd
  ·split at hd
   ·cases hd
   ·split at hd
    ·cases hd;exact Qy _
    ·cases hd
theorem mH {p:aO} {v:AV} {H':ay} {nx':Nat} (hd:bS p H nx=some (v,H',nx')):nx<=nx':=by
 unfold bS at hd;split at hd
 ·cases hd;exact Qy _
 ·cases hd;exact Nat.le_succ _
 ·unfold dO at hd
  repeat' (split at hd<;>try cases hd)
  all_goals first|exact Qy _|exact Nat.le_succ _
theorem FZ (hcf:lY cf) {ao:av} {ρ:aH->AV} {v:AV} {H':ay} {nx':Nat} (hd:jb cf ao ρ H nx=some (v,H',nx')):nx<=nx':=by
 unfold jb at hd;rw [cond_eq_ite] at hd;split at hd
 ·split at hd
  ·split at hd
   ·cases hd
   ·split at hd
    ·cases hd;exact Qy _
    ·cases hd
  ·cases hd
 ·unfold fj at hd;split at hd
  ·split at hd
   ·exact mH hd
   ·cases hd
  ·exact uP hcf hd
  ·split at hd
   ·exact uP hcf hd
   ·cases hd
theorem dX (o:av) (l:List av) (st:St):dy cf nt (o::l) st=match er cf nt o st with
   |some st=>dy cf nt l st
   |none=>none:=rfl
theorem Cv (hcf:lY cf) {ao:av} {st st':St} (hr:er cf nt ao st=some st'):st.nx<=st'.nx:=by
 unfold er at hr;rw [cond_eq_ite] at hr;split at hr
 ·split at hr
  ·cases hr
  ·rename_i v H nx hd;split at hr
   ·cases hr;exact FZ hcf hd
   ·cases hr
 ·split at hr
  ·cases hr;exact Qy _
  ·cases hr
theorem tO (hcf:lY cf) {al:List av}:∀{st st':St},dy cf nt al st=some st'->st.nx<=st'.nx:=by
 induction al with
 |nil=>intro st st' hr;cases hr;exact Qy _
 |cons o l ih=>
  intro st st' hr;rw [dX] at hr;split at hr
  ·rename_i st1 h1;exact Qw (Cv hcf h1) (ih hr)
  ·cases hr
theorem y3 (hcf:j7 P cf) {ops:Array Oper} {ao:av} (hm:rZ P ops o ao=true) {st st':St} (hr:er cf nt ao st=some st') (ht:st'.nx<=top) {a:Act} (s:bM top φ K st.H.get st.nx w) (he:lZ φ K w st.env a) (hs:a.tmps.size=nt) (hd:a.defers=[])
  (next:Act->World->Prop) (Q:Exit->Act->World->Prop) (hn:∀a' w',Post top φ K st w nt st' a' w'->next a' w') :
  if Region.wanted o (yielded ops a.tmps) then o.wp P a w next Q else next (a.put o.dst undef) w:=by
 simp only [rZ,Qk] at hm;obtain⟨⟨h1,h2⟩,h3⟩:=hm;have qxR:=Al h1;rw [A8 he h2];unfold er at hr;rw [cond_eq_ite] at hr;split at hr
 ·rename_i hw;rw [if_pos hw];split at hr
  ·cases hr
  ·rename_i v H' nx' hdo;split at hr
   ·rename_i e' hp;cases hr;refine Dr hcf s he.Lu h3 hdo ht next Q (fun V w' hE=>?_);obtain⟨φ',K',g,hv⟩:=hE;rw [←qxR] at hp;obtain⟨q1,q2,q3⟩:=wX (he.keep s g) hs hp hv;exact hn _ _ ⟨φ',K',g,q1,q2,by rw [q3,hd]⟩
   ·cases hr
 ·rename_i hw;rw [if_neg hw];split at hr
  ·rename_i e' hp;cases hr;rw [←qxR] at hp;obtain⟨q1,q2,q3⟩:=wX he hs hp oe;exact hn _ _ ⟨φ,K,cq.refl s,q1,q2,by rw [q3,hd]⟩
  ·cases hr
theorem Post.trans {φ1:fm} {K1:Nat->Prop} {st st1 st':St} {w1:World} (g:cq top φ K st.H.get st.nx w φ1 K1 st1.H.get st1.nx w1) {a':Act} {w':World} (p:Post top φ1 K1 st1 w1 nt st' a' w'):Post top φ K st w nt st' a' w':=
 let ⟨φ',K',g',q⟩:=p;⟨φ',K',g.trans g',q⟩
theorem LW (hcf:j7 P cf) (hup:lY cf) {ops:Array Oper} {Q:Exit->Act->World->Prop}:∀(l:List Oper) (al:List av) (st st':St) (a:Act) (w:World) (φ:fm) (K:Nat->Prop),mL P ops l al=true->dy cf nt al st=some st'->st'.nx<=top->
  bM top φ K st.H.get st.nx w->lZ φ K w st.env a->a.tmps.size=nt->a.defers=[]->(∀a' w',Post top φ K st w nt st' a' w'->Q .normal a' w')->wpList P ops Q l a w:=by
 intro l
 induction l with
 |nil=>
  intro al st st' a w φ K hm hr ht s he hs hd hQ;cases al with
  |nil=>cases hr;exact hQ a w ⟨φ,K,cq.refl s,he,hs,hd⟩
  |cons _ _=>cases hm
 |cons o l ih=>
  intro al st st' a w φ K hm hr ht s he hs hd hQ;cases al with
  |nil=>cases hm
  |cons ao al=>
   simp only [mL,Qk] at hm;rw [dX] at hr;split at hr
   ·rename_i st1 h1;have qwV:=tO hup hr;refine wpList_step (fun Kn hK=>?_);refine y3 hcf hm.1 h1 (Qw qwV ht) s he hs hd Kn Q (fun a1 w1 hp=>hK a1 w1 ?_);obtain⟨φ1,K1,g,q1,q2,q3⟩:=hp;exact ih al st1 st' a1 w1 φ1 K1 hm.2 hr ht g.nc q1 q2 q3 (fun a' w' hp'=>hQ a' w' (hp'.trans g))
   ·cases hr
end
end Go.Ax
namespace Go.Ax
section
variable {ρ ρ':aH->AV}
theorem jP:∀(parts:List (Nat×Nat×aH)) (cells:List AV),(∀x,x∈parts.map (·.2.2)->ρ x=ρ' x)->fill ρ parts cells=fill ρ' parts cells:=by
 intro parts
 induction parts with
 |nil=>intro cells _;rfl
 |cons p parts ih=>
  intro cells h;rw [lO,lO,h p.2.2 (by simp)];have ih':∀cells,fill ρ parts cells=fill ρ' parts cells:=fun cells=>ih cells (fun x hx=>h x (by rw [List.map_cons];exact Qd _ hx))
  simp only [ih']
theorem o7 {x:Option aH} (h:∀y,y∈x.toList->ρ y=ρ' y) (other y:Nat):AZ ρ x other y=AZ ρ' x other y:=by
 cases x with
 |none=>rfl
 |some o=>simp only [AZ,h o (by simp)]
theorem mX {lo hi mx:Option aH} (h1:∀y,y∈lo.toList->ρ y=ρ' y) (h2:∀y,y∈hi.toList->ρ y=ρ' y) (h3:∀y,y∈mx.toList->ρ y=ρ' y) (len cap:Nat):jd ρ lo hi mx len cap=jd ρ' lo hi mx len cap:=by simp only [jd,o7 h1,o7 h2,o7 h3]
theorem Bd {es:Nat} {v:AV} {lo hi mx:Option aH} (h1:∀y,y∈lo.toList->ρ y=ρ' y) (h2:∀y,y∈hi.toList->ρ y=ρ' y) (h3:∀y,y∈mx.toList->ρ y=ρ' y):yN es ρ v lo hi mx=yN es ρ' v lo hi mx:=by simp only [yN,mX h1 h2 h3]
theorem zl (op:dV) (h:∀x,x∈op.cg->ρ x=ρ' x) {p:(aH->AV)->Option aO} (hk:kind op=.plan p):p ρ=p ρ':=by
 cases op<;>cases hk
 case mv x=>simp only [h x (by simp [dV.cg])]
 case pick c a b=>simp only [nj,h c (by simp [dV.cg]),h a (by simp [dV.cg]),h b (by simp [dV.cg])]
 case alloc=>rfl
 case box x=>simp only [xb,h x (by simp [dV.cg])]
 case build zero parts=>simp only [jJ,jP parts zero h]
 case eR es len zero parts=>simp only [iK,jP parts zero h]
 case aQ len zero parts=>simp only [c5,jP parts zero h]
 case load sz a=>simp only [iJ,h a (by simp [dV.cg])]
 case store sz a x=>simp only [iV,h a (by simp [dV.cg]),h x (by simp [dV.cg])]
 case iN x=>simp only [gG,h x (by simp [dV.cg])]
 case bin op x y=>simp only [h x (by simp [dV.cg]),h y (by simp [dV.cg])]
 case eq t neg x y=>simp only [Dn,h x (by simp [dV.cg]),h y (by simp [dV.cg])]
 case un op x=>simp only [h x (by simp [dV.cg])]
 case conv k x=>simp only [pG,h x (by simp [dV.cg])]
 case kG es bytes zero n=>simp only [pE,h n (by simp [dV.cg])]
 case jY x lo hi=>
  have e:=fun len cap=>mX (ρ:=ρ) (ρ':=ρ') (lo:=lo) (hi:=hi) (mx:=none) (fun y hy=>h y (by simp [dV.cg];simp at hy;exact .inr (.inl hy))) (fun y hy=>h y (by simp [dV.cg];simp at hy;exact .inr (.inr hy))) (fun y hy=>by simp at hy) len cap
  simp only [ku,h x (by simp [dV.cg]),e]
 case iR es x lo hi mx=>
  have e:=fun v=>Bd (ρ:=ρ) (ρ':=ρ') (es:=es) (v:=v) (lo:=lo) (hi:=hi) (mx:=mx) (fun y hy=>h y (by simp [dV.cg];simp at hy;exact .inr (.inl hy))) (fun y hy=>h y (by simp [dV.cg];simp at hy;exact .inr (.inr (.inl hy)))) (fun y hy=>h y (by simp [dV.cg];simp at hy;exact .inr (.inr (.inr hy))))
  simp only [h x (by simp [dV.cg]),e]
 case iE n es x lo hi mx=>
  have e:=fun len cap=>mX (ρ:=ρ) (ρ':=ρ') (lo:=lo) (hi:=hi) (mx:=mx) (fun y hy=>h y (by simp [dV.cg];simp at hy;exact .inr (.inl hy))) (fun y hy=>h y (by simp [dV.cg];simp at hy;exact .inr (.inr (.inl hy)))) (fun y hy=>h y (by simp [dV.cg];simp at hy;exact .inr (.inr (.inr hy)))) len cap
  simp only [iW,h x (by simp [dV.cg]),e]
 case gR off x=>simp only [fY,h x (by simp [dV.cg])]
 case Bz off sz x=>simp only [w9,h x (by simp [dV.cg])]
 case bL es x i=>simp only [gH,h x (by simp [dV.cg]),h i (by simp [dV.cg])]
 case kO len es x i=>simp only [kz,h x (by simp [dV.cg]),h i (by simp [dV.cg])]
 case idx x i=>simp only [w8,h x (by simp [dV.cg]),h i (by simp [dV.cg])]
 case ext i x=>simp only [w_,h x (by simp [dV.cg])]
 case app es bytes s x=>simp only [h s (by simp [dV.cg]),h x (by simp [dV.cg])]
 case BY es d s=>simp only [h d (by simp [dV.cg]),h s (by simp [dV.cg])]
 case EU es zero x=>simp only [Fm,h x (by simp [dV.cg])]
 case len str x=>simp only [iX,h x (by simp [dV.cg])]
 case yw mx xs=>have e:xs.map ρ=xs.map ρ':=List.map_congr_left (fun x hx=>h x (by simpa [dV.cg] using hx));simp only [vl,e]
 case mc=>rfl
 case mb t zero ok m k=>simp only [Dm,h m (by simp [dV.cg]),h k (by simp [dV.cg])]
 case vp t m k v=>simp only [Gv,h m (by simp [dV.cg]),h k (by simp [dV.cg]),h v (by simp [dV.cg])]
 case tE m=>simp only [Gw,h m (by simp [dV.cg])]
end
def dJ (o:av):Bool:=!o.fz&&match o.op with
 |.mv _|.pick ..|.alloc _|.box _|.build ..|.eR ..|.aQ ..|.iN _|.bin ..|.eq ..|.un ..|.conv ..|.kG ..|.jY ..|.iR ..|.gR ..|.Bz ..|.bL ..|.kO ..|.idx ..|.ext ..|.len ..|.yw ..|.mc=>true
 |_=>false
def j_ (o:av):Bool:=!o.fz&&match o.op with
 |.load ..|.iE ..|.mb ..|.tE _=>true
 |.call _ _ .borrow|.cN _ _ .borrow=>true
 |_=>dJ o
def aO.free:aO->Prop
 |.look _ _ _=>False
 |_=>True
theorem xS {p:aO} (h:p.free):p.cR=[]/\p.bX=[]:=by cases p<;>first|exact⟨rfl,rfl⟩|exact h.elim
theorem bf {v:Option AV} {p:aO} (h:dI v=some p):p.free:=by obtain⟨x,_,rfl⟩:=dw h;trivial
theorem uu {o:av} (hf:dJ o=true) {p:(aH->AV)->Option aO} (hk:kind o.op=.plan p) {ρ:aH->AV} {q:aO} (hp:p ρ=some q):q.free:=by
 simp only [dJ,Qk] at hf;obtain⟨_,hf⟩:=hf;cases hop:o.op<;>rw [hop] at hk hf<;>first|cases hf|skip
 all_goals (cases hk)
 case mv=>cases hp;trivial
 case pick=>simp only at hp;unfold nj at hp;(repeat' (split at hp<;>try cases hp))<;>first|trivial|exact bf hp|(cases hp;trivial)
 case alloc=>cases hp;trivial
 case box=>simp only at hp;unfold xb at hp;(repeat' (split at hp<;>try cases hp))<;>first|trivial|exact bf hp|(cases hp;trivial)
 case build=>simp only at hp;unfold jJ at hp;(repeat' (split at hp<;>try cases hp))<;>first|trivial|exact bf hp|(cases hp;trivial)
 case eR=>simp only at hp;unfold iK at hp;(repeat' (split at hp<;>try cases hp))<;>first|trivial|exact bf hp|(cases hp;trivial)
 case aQ=>simp only at hp;unfold c5 at hp;simp only [cond_eq_ite] at hp;(repeat' (split at hp<;>try cases hp))<;>first|trivial|exact bf hp|(cases hp;trivial)
 case iN=>simp only at hp;unfold gG at hp;(repeat' (split at hp<;>try cases hp))<;>first|trivial|exact bf hp|(cases hp;trivial)
 case bin=>exact bf hp
 case eq=>simp only at hp;unfold Dn at hp;(repeat' (split at hp<;>try cases hp))<;>first|trivial|exact bf hp|(cases hp;trivial)
 case un=>exact bf hp
 case conv=>simp only at hp;unfold pG at hp;(repeat' (split at hp<;>try cases hp))<;>first|trivial|exact bf hp|(cases hp;trivial)
 case kG=>simp only at hp;unfold pE at hp;simp only [cond_eq_ite] at hp;(repeat' (split at hp<;>try cases hp))<;>first|trivial|exact bf hp|(cases hp;trivial)
 case jY=>simp only at hp;unfold ku at hp;(repeat' (split at hp<;>try cases hp))<;>first|trivial|exact bf hp|(cases hp;trivial)
 case iR=>exact bf hp
 case gR=>simp only at hp;unfold fY at hp;(repeat' (split at hp<;>try cases hp))<;>first|trivial|exact bf hp|(cases hp;trivial)
 case Bz=>simp only at hp;unfold w9 at hp;(repeat' (split at hp<;>try cases hp))<;>first|trivial|exact bf hp|(cases hp;trivial)
 case bL=>simp only at hp;unfold gH at hp;simp only [cond_eq_ite] at hp;(repeat' (split at hp<;>try cases hp))<;>first|trivial|exact bf hp|(cases hp;trivial)
 case kO=>simp only at hp;unfold kz at hp;(repeat' (split at hp<;>try cases hp))<;>first|trivial|exact bf hp|(cases hp;trivial)
 case idx=>simp only at hp;unfold w8 at hp;(repeat' (split at hp<;>try cases hp))<;>first|trivial|exact bf hp|(cases hp;trivial)
 case ext=>simp only at hp;unfold w_ at hp;(repeat' (split at hp<;>try cases hp))<;>first|trivial|exact bf hp|(cases hp;trivial)
 case len=>simp only at hp;unfold iX at hp;(repeat' (split at hp<;>try cases hp))<;>first|trivial|exact bf hp|(cases hp;trivial)
 case yw=>simp only at hp;unfold vl at hp;(repeat' (split at hp<;>try cases hp))<;>first|trivial|exact bf hp|(cases hp;trivial)
 case mc=>cases hp;trivial
end Go.Ax
namespace Go.Ax
section
open Classical
variable {α ι β:Type}
noncomputable def eZ (T:Nat->ι->Prop) (x0:ι->α) (y:Nat->ι->α) (L:Nat->Bool):Nat->ι->α
 |0=>x0
 |k+1=>fun i=>if L k=true/\T k i then y k i else eZ T x0 y L k i
variable {T:Nat->ι->Prop} {x0:ι->α} {y:Nat->ι->α} {L:Nat->Bool} {n:Nat}
theorem sn (z:Nat->ι->α) (h0:z 0=x0) (hz:∀k,k < n->∀i,z (k+1) i=if T k i then y k i else z k i) (hL:∀k,k < n->L k=true):eZ T x0 y L n=z n:=by
 induction n with
 |zero=>exact h0.symm
 |succ n ih=>funext i;simp only [eZ];rw [ih (fun k hk=>hz k (Nat.lt_succ_of_lt hk)) (fun k hk=>hL k (Nat.lt_succ_of_lt hk)),hz n (Nat.lt_succ_self n),hL n (Nat.lt_succ_self n)];simp
theorem sj (f:α->β) (z:Nat->ι->α) (h0:z 0=x0) (hz:∀k,k < n->∀i,z (k+1) i=if T k i then y k i else z k i) (i:ι) {j:Nat} (hj:j < n) (hLj:L j=false) (A:Nat->Prop)
  (hT:∀k,k < n->k≠j->T k i->(k < j/\L k=true)\/((L k=true\/k < j)->f (z k i)=f (z j i)/\f (y k i)=f (z j i))):f (eZ T x0 y L n i)=f (z j i):=by
 have key:∀k,k<=n->(k<=j/\eZ T x0 y L k i=z k i)\/f (eZ T x0 y L k i)=f (z j i):=by
  intro k
  induction k with
  |zero=>intro _;exact .inl ⟨Qx _,by rw [h0];rfl⟩
  |succ k ih=>
   intro hk;have ih:=ih (Nat.le_of_succ_le hk);have hkn:k < n:=hk;simp only [eZ];by_cases hkj:k=j
   ·subst hkj;rw [if_neg (by rw [hLj];simp)];rcases ih with ⟨_,h2⟩|h2
    ·exact .inr (by rw [h2])
    ·exact .inr h2
   ·by_cases ht:T k i
    ·rcases hT k hkn hkj ht with ⟨h1,h2⟩|h1
     ·rw [if_pos ⟨h2,ht⟩];exact .inl ⟨by omega,by rw [hz k hkn i,if_pos ht]⟩
     ·by_cases hLk:L k=true
      ·rw [if_pos ⟨hLk,ht⟩];exact .inr (h1 (.inl hLk)).2
      ·rw [if_neg (fun h=>hLk h.1)];rcases ih with ⟨h2,h3⟩|h3
       ·exact .inr (by rw [h3];exact(h1 (.inr (by omega))).1)
       ·exact .inr h3
    ·rw [if_neg (fun h=>ht h.2)];rcases ih with ⟨h2,h3⟩|h3
     ·exact .inl ⟨by omega,by rw [h3,hz k hkn i,if_neg ht]⟩
     ·exact .inr h3
 rcases key n (Qy _) with ⟨h1,_⟩|h1
 ·omega
 ·exact h1
theorem ur {L':Nat->Bool} {j:Nat} (hj:j < n) (hLj:L j=false) (hj1:L' j=true) (hj2:∀k,k≠j->L' k=L k) (i:ι) (h:T j i->∀k,j < k->k < n->L k=true->¬T k i) :
  eZ T x0 y L' n i=if T j i then y j i else eZ T x0 y L n i:=by
 have key:∀m,m<=n->eZ T x0 y L' m i=if j < m/\T j i then y j i else eZ T x0 y L m i:=by
  intro m
  induction m with
  |zero=>intro _;simp [eZ]
  |succ m ih=>
   intro hm;have ih:=ih (Nat.le_of_succ_le hm);simp only [eZ];by_cases hmj:m=j
   ·subst hmj;by_cases ht:T m i
    ·rw [if_pos ⟨hj1,ht⟩,if_pos ⟨Nat.lt_succ_self m,ht⟩]
    ·rw [if_neg (fun h=>ht h.2),if_neg (fun h=>ht h.2),if_neg (fun h=>ht h.2),ih,if_neg (fun h=>ht h.2)]
   ·have e:=hj2 m hmj;by_cases hc:L m=true/\T m i
    ·rw [if_pos (by rw [e];exact hc)];by_cases hjm:j < m+1/\T j i
     ·exact absurd hc.2 (h hjm.2 m (by omega) hm hc.1)
     ·rw [if_neg hjm,if_pos hc]
    ·rw [if_neg (by rw [e];exact hc),ih,if_neg hc];by_cases ht:T j i
     ·by_cases hjm:j < m
      ·rw [if_pos ⟨hjm,ht⟩,if_pos ⟨by omega,ht⟩]
      ·rw [if_neg (fun h=>hjm h.1),if_neg (fun h=>by omega)]
     ·rw [if_neg (fun h=>ht h.2),if_neg (fun h=>ht h.2)]
 rw [key n (Qy _)];by_cases ht:T j i
 ·rw [if_pos ⟨hj,ht⟩,if_pos ht]
 ·rw [if_neg (fun h=>ht h.2),if_neg ht]
end
section
variable {top:Nat} {P:Program} {φ φ':fm} {K K':Nat->Prop} {h hp hp':aW} {nx nx':Nat} {w w':World}
theorem Hi (s:bM top φ K h nx w) {id:Nat} {ob:dU} (hh:h id=some ob):∃p,φ id (gen ob)=some p:=by
 cases ob with
 |row g cells=>obtain⟨b,base,_,_,h1,_⟩:=s.row id g cells hh;exact⟨_,h1⟩
 |map es=>obtain⟨b,_,_,h1,_⟩:=s.map id es hh;exact⟨_,h1⟩
theorem zo (s:bM top φ K h nx w) (rest:Nat->Prop) [DecidablePred rest] (hr:∀id,rest id->hp id=none) (hn:∀id,¬rest id->hp id=h id) (g:cq top φ K hp nx w φ' K' hp' nx' w') (ht:nx'<=top) :
  cq top φ K h nx w φ' K' (fun id=>if rest id then h id else hp' id) nx' w':=by
 have hsub:∀id ob,hp id=some ob->h id=some ob/\¬rest id:=by
  intro id ob hh;by_cases hc:rest id
  ·rw [hr id hc] at hh;cases hh
  ·rw [hn id hc] at hh;exact⟨hh,hc⟩
 have qx2:∀b,s_ φ hp b->s_ φ h b:=fun b ⟨id,ob,base,h1,h2⟩=>⟨id,ob,base,(hsub _ _ h1).1,h2⟩
 have hold:∀id ob b base,h id=some ob->φ' id (gen ob)=some (b,base)->φ id (gen ob)=some (b,base):=by intro id ob b base hh hp1;obtain⟨p,hp2⟩:=Hi s hh;have:=g.Bi _ _ _ hp2;rw [hp1] at this;cases this;exact hp2
 have hnot:∀id ob b base,rest id->h id=some ob->φ id (gen ob)=some (b,base)->¬s_ φ hp b:=by rintro id ob b base qxb hh hp1 ⟨id',ob',base',h3,h4⟩;obtain⟨h5,h6⟩:=hsub _ _ h3;have:=s.inj id id' ob ob' b base base' hh h5 hp1 h4;subst this;exact h6 qxb
 have hval:∀{a:AV} {v:Value},aG φ K w a v->aG φ' K' w' a v:=fun r=>aG.keep g.Bi g.k (fun b hb=>g.ext.same b (s.j8 b hb).1 (fun hm=>(s.j8 b hb).2 (qx2 b hm))) g.ext.shape r
 refine⟨g.Bi,g.k,⟨fun b hb=>⟨(g.nc.j8 b hb).1,fun hm=>?_⟩,fun id gg cells hh=>?_,fun id es hh=>?_,fun id id' ob ob' b base base' h1 h2 p1 p2=>?_,fun id ob hh=>?_,g.nc.new⟩,
  g.ext.mono qx2,fun b hb=>?_,fun b hb=>?_,fun id gg p hp1=>?_,fun id hd=>?_,g.nx⟩
 ·obtain⟨id,ob,base,h1,h2⟩:=hm;by_cases hc:rest id
  ·simp only [if_pos hc] at h1;have h3:=hold _ _ _ _ h1 h2;rcases g.tw b hb with h4|h4|h4
   ·exact(s.j8 b h4).2 ⟨id,ob,base,h1,h3⟩
   ·exact Nat.lt_irrefl _ (Qs (ew s h1 h3) h4)
   ·exact hnot _ _ _ _ hc h1 h3 h4
  ·simp only [if_neg hc] at h1;exact(g.nc.j8 b hb).2 ⟨id,ob,base,h1,h2⟩
 ·by_cases hc:rest id
  ·simp only [if_pos hc] at hh;obtain⟨b,base,c,e,q1,q2,q3,q4⟩:=s.row id gg cells hh;refine⟨b,base,c,e,g.Bi _ _ _ q1,?_,q3,fun j a ha=>⟨(q4 j a ha).1,let ⟨v,a1,a2⟩:=(q4 j a ha).2;⟨v,a1,hval a2⟩⟩⟩;rw [g.ext.same b (Array.getElem?_eq_some_iff.1 q2).1 (hnot id _ b base hc hh (by simpa [gen] using q1))];exact q2
  ·simp only [if_neg hc] at hh;exact g.nc.row id gg cells hh
 ·by_cases hc:rest id
  ·simp only [if_pos hc] at hh;obtain⟨b,mes,clk,q1,q2,q3,q4⟩:=s.map id es hh;refine⟨b,mes,clk,g.Bi _ _ _ q1,?_,q3,fun j k v hj=>let ⟨me,m1,m2,m3⟩:=q4 j k v hj;⟨me,m1,hval m2,hval m3⟩⟩;rw [g.ext.same b (Array.getElem?_eq_some_iff.1 q2).1 (hnot id _ b 0 hc hh (by simpa [gen] using q1))];exact q2
  ·simp only [if_neg hc] at hh;exact g.nc.map id es hh
 ·have mixed:∀id id' ob ob' b base base',rest id->¬rest id'->h id=some ob->hp' id'=some ob'->φ' id (gen ob)=some (b,base)->φ' id' (gen ob')=some (b,base')->False:=by
   intro id id' ob ob' b base base' hc hc' h1 h2 p1 p2;have p3:=hold _ _ _ _ h1 p1;rcases g.mu b ⟨id',ob',base',h2,p2⟩ with h4|h4
   ·exact hnot _ _ _ _ hc h1 p3 h4
   ·exact Nat.lt_irrefl _ (Qs (ew s h1 p3) h4)
  by_cases hc:rest id
  ·by_cases hc':rest id'
   ·simp only [if_pos hc] at h1;simp only [if_pos hc'] at h2;exact s.inj id id' ob ob' b base base' h1 h2 (hold _ _ _ _ h1 p1) (hold _ _ _ _ h2 p2)
   ·simp only [if_pos hc] at h1;simp only [if_neg hc'] at h2;exact(mixed _ _ _ _ _ _ _ hc hc' h1 h2 p1 p2).elim
  ·by_cases hc':rest id'
   ·simp only [if_neg hc] at h1;simp only [if_pos hc'] at h2;exact(mixed _ _ _ _ _ _ _ hc' hc h2 h1 p2 p1).elim
   ·simp only [if_neg hc] at h1;simp only [if_neg hc'] at h2;exact g.nc.inj id id' ob ob' b base base' h1 h2 p1 p2
 ·have hnx:=g.nx;by_cases hc:rest id
  ·simp only [if_pos hc] at hh;have hl:=s.low id ob hh;refine⟨fun hx=>hl.1 (by omega),fun gg hgg=>?_⟩;cases hq:φ' id gg with
   |none=>rfl
   |some p=>
    exfalso;rcases g.fr id gg p hq with h4|h4|h4
    ·rw [hl.2 gg hgg] at h4;cases h4
    ·exact hl.1 (by omega)
    ·rw [hr id hc] at h4;cases h4
  ·simp only [if_neg hc] at hh;exact g.nc.low id ob hh
 ·obtain⟨id,ob,base,h1,h2⟩:=hb;by_cases hc:rest id
  ·simp only [if_pos hc] at h1;exact .inl ⟨id,ob,base,h1,hold _ _ _ _ h1 h2⟩
  ·simp only [if_neg hc] at h1;exact(g.mu b ⟨id,ob,base,h1,h2⟩).imp (qx2 b) (fun h=>h)
 ·exact(g.tw b hb).imp (fun h=>h) (Or.imp (fun h=>h) (qx2 b))
 ·rcases g.fr id gg p hp1 with h4|h4|h4
  ·exact .inl h4
  ·exact .inr (.inl h4)
  ·cases hq:hp id with
   |none=>rw [hq] at h4;cases h4
   |some ob=>rw [(hsub id ob hq).1];exact .inr (.inr rfl)
 ·by_cases hc:rest id
  ·simp only [if_pos hc] at hd;exact .inl hd
  ·simp only [if_neg hc] at hd;rcases g.dom id hd with h4|h4
   ·cases hq:hp id with
    |none=>rw [hq] at h4;cases h4
    |some ob=>rw [(hsub id ob hq).1];exact .inl rfl
   ·exact .inr h4
end
end Go.Ax
namespace Go.Ax
open Classical
def eg (n0:Nat) (bX:Ip) (nx nx':Nat) (id:Nat):Prop:=(match bX with|.ids l=>id∈l|.all=>id < n0)\/(nx<=id/\id < nx')
def fO (n0:Nat) (h h':aW):Rd->Prop
 |.qh r=>dg h (some r)=dg h' (some r)
 |.obj id=>h id=h' id
 |.all=>∀id,id < n0->h id=h' id
section
variable {P:Program} {H H':ay} {nx nx' n0:Nat} {o:Oper} {nt:Nat} {cf:eI} {v:AV} {cR:List Rd} {bX:Ip}
theorem tv {p:aO} (hr:bS p H nx=some (v,H',nx')) :
  nx<=nx'/\(∀id,¬eg n0 (.ids p.bX) nx nx' id->H'.get id=H.get id)/\
  ∀h:aW,(∀rd,rd∈p.cR->fO n0 h H.get rd)->oq p h nx=some (v,(fun id=>if eg n0 (.ids p.bX) nx nx' id then H'.get id else h id),nx'):=by
 refine⟨mH hr,?_⟩;have hF:=tN hr;cases p with
 |val x=>
  cases hr;refine⟨fun id _=>rfl,fun h _=>?_⟩;have:(fun id=>if eg n0 (.ids (aO.val v).bX) nx nx id then H.get id else h id)=h:=by
   funext id;rw [if_neg];rintro(h1|h1)
   ·cases h1
   ·omega
  rw [this];rfl
 |new f ob=>
  cases hr;refine⟨fun id hn=>?_,fun h _=>?_⟩
  ·rw [Map.au,if_neg];rintro rfl;exact hn (.inr ⟨Qy _,Nat.lt_succ_self _⟩)
  ·have:(fun id=>if eg n0 (.ids (aO.new f ob).bX) nx (Nat.succ nx) id then (H.put (some ob) nx).get id else h id)=wu h nx (some ob):=by
    funext id;rw [Map.au];by_cases hid:id=nx
    ·subst hid;rw [if_pos (.inr ⟨Qy _,Nat.lt_succ_self _⟩),if_pos rfl,cu]
    ·rw [if_neg,bp _ _ hid];rintro(h1|h1)
     ·cases h1
     ·omega
   rw [this];rfl
 |look q u k=>
  simp only [oq] at hF;cases hq:dg H.get q with
  |none=>rw [hq] at hF;cases hF
  |some a=>
   rw [hq] at hF;simp only at hF;cases hu:gk H.get u with
   |none=>rw [hu] at hF;cases hF
   |some ob=>
    rw [hu] at hF;simp only at hF;cases hk:k a ob with
    |none=>rw [hk] at hF;cases hF
    |some out=>
     rw [hk] at hF;simp only at hF;have qwF:∀id,id ∉ (aO.look q u k).bX->pX H.get u out.obj id=H.get id:=by
      intro id hn;cases ho:out.obj with
      |none=>rfl
      |some ob'=>
       cases u with
       |none=>rfl
       |some i=>exact bp _ _ (by rintro rfl;exact hn (by simp [aO.bX]))
     have agree_u:∀h:aW,(∀rd,rd∈(aO.look q u k).cR->fO n0 h H.get rd)->dg h q=some a/\gk h u=some ob/\∀id,pX h u out.obj id=if id∈(aO.look q u k).bX then pX H.get u out.obj id else h id:=by
      intro h ha;refine⟨?_,?_,?_⟩
      ·cases q with
       |none=>exact hq
       |some r=>rw [←hq];exact ha (.qh r) (by simp [aO.cR])
      ·cases u with
       |none=>exact hu
       |some i=>rw [←hu];have:=ha (.obj i) (by simp [aO.cR]);simp only [fO] at this;simp only [gk,this]
      ·intro id;cases u with
       |none=>cases out.obj<;>simp [aO.bX,pX]
       |some i=>
        have hai:=ha (.obj i) (by simp [aO.cR]);simp only [fO] at hai;simp only [aO.bX,Qh];by_cases hid:id=i
        ·subst hid;rw [if_pos rfl];cases out.obj with
         |none=>exact hai
         |some ob'=>simp [pX,cu]
        ·rw [if_neg hid];cases out.obj with
         |none=>rfl
         |some ob'=>exact bp _ _ hid
     cases hnew:out.new with
     |none=>
      rw [hnew] at hF;simp only [Option.some.injEq,Prod.mk.injEq] at hF;obtain⟨rfl,hH,rfl⟩:=hF;refine⟨fun id hn=>?_,fun h ha=>?_⟩
      ·rw [←hH];exact qwF id (fun h=>hn (.inl h))
      ·obtain⟨a1,a2,a3⟩:=agree_u h ha;simp only [oq,a1,a2,hk,hnew];congr 3;funext id;rw [a3 id,←hH];by_cases ht:id∈(aO.look q u k).bX
       ·rw [if_pos ht,if_pos (.inl ht)]
       ·rw [if_neg ht,if_neg];rintro(h1|h1)
        ·exact ht h1
        ·omega
     |some nb=>
      rw [hnew] at hF;simp only [Option.some.injEq,Prod.mk.injEq] at hF;obtain⟨rfl,hH,rfl⟩:=hF;refine⟨fun id hn=>?_,fun h ha=>?_⟩
      ·rw [←hH,bp]
       ·exact qwF id (fun h=>hn (.inl h))
       ·rintro rfl;exact hn (.inr ⟨Qy _,Nat.lt_succ_self _⟩)
      ·obtain⟨a1,a2,a3⟩:=agree_u h ha;simp only [oq,a1,a2,hk,hnew];congr 3;funext id;rw [←hH];by_cases hid:id=nx
       ·subst hid;rw [cu,if_pos (.inr ⟨Qy _,Nat.lt_succ_self _⟩),cu]
       ·rw [bp _ _ hid,bp _ _ hid,a3 id];by_cases ht:id∈(aO.look q u k).bX
        ·rw [if_pos ht,if_pos (.inl ht)]
        ·rw [if_neg ht,if_neg];rintro(h1|h1)
         ·exact ht h1
         ·omega
theorem m5 (H:ay) (p:Nat->Bool) (id:Nat):(H.upto p).get id=if p id=true then H.get id else none:=by rw [Map.fT]
theorem sM (hcf:j7 P cf) (hup:lY cf) {f:Nat} {args:List AV} {m:Mode} (hn0:n0<=nx) (hd:bU cf n0 f args m H nx=some (v,H',nx',cR,bX)) :
  nx<=nx'/\(∀id,¬eg n0 bX nx nx' id->H'.get id=H.get id)/\(∀args w,(callFunc f args).run P w=.ok (.enter f args) w)/\
  ∀φ K h w cargs,bM nx' φ K h nx w->(∀rd,rd∈cR->fO n0 h H.get rd)->td φ K w args cargs->
   Calls P f cargs w (It (Ends nx' φ K h nx w v (fun id=>if eg n0 bX nx nx' id then H'.get id else h id) nx')):=by
 have none_touch:∀(h:aW),(fun id=>if eg n0 (.ids []) nx nx id then H.get id else h id)=h:=by
  intro h;funext id;rw [if_neg];rintro(h1|h1)
  ·cases h1
  ·omega
 cases m with
 |share=>
  simp only [bU] at hd;split at hd
  ·rename_i v1 Hc oc hc;cases hd;have hle:=hup _ _ _ _ _ _ _ hc;obtain⟨h1,h2⟩:=hcf _ _ _ _ _ _ _ hc;have qq9:∀id,((Hc.upto fun i=>Nat.blt i n0||(Nat.ble nx i&&Nat.blt i nx')).union (H.upto fun i=>!(Nat.blt i n0||(Nat.ble nx i&&Nat.blt i nx')))).get id=if eg n0 .all nx nx' id then Hc.get id else H.get id:=by
    intro id;rw [Map.uH,m5,m5];have hb:(Nat.blt id n0||(Nat.ble nx id&&Nat.blt id nx'))=decide (eg n0 .all nx nx' id):=by rw [Bool.eq_iff_iff];rw [Qq];simp only [Ql,Qk,Qp,Qo,eg]
    rw [hb];by_cases ht:eg n0 .all nx nx' id
    ·simp only [ht,decide_true,if_true,Bool.not_true];cases Hc.get id<;>rfl
    ·simp only [ht,decide_false,if_false,Bool.not_false,if_true];rfl
   refine⟨hle,fun id hn=>by rw [qq9,if_neg hn],h1,fun φ K h w cargs s ha hargs=>?_⟩;have hall:=ha .all (Qh.2 rfl);simp only [fO] at hall;have hpart:∀id,((H.upto fun i=>Nat.blt i n0).get id)=if id < n0 then h id else none:=by
    intro id;rw [m5];by_cases hlt:id < n0
    ·rw [if_pos (by rw [Qp];exact hlt),if_pos hlt,hall id hlt]
    ·rw [if_neg (by rw [Qp];exact hlt),if_neg hlt]
   have sp:=s.part (h':=(H.upto fun i=>Nat.blt i n0).get) (fun id ob hh=>by
    rw [hpart] at hh;split at hh
    ·exact hh
    ·cases hh)
   have hcl:=h2 nx' φ K w cargs (Qy _) sp hargs;refine Calls.mono hcl (fun e w' he=>?_);cases e with
   |returned V=>
    obtain⟨φ',K',g,hV⟩:=he;refine⟨φ',K',?_,hV⟩;have gf:=zo s (fun id=>¬id < n0/\¬(nx<=id/\id < nx')) (fun id hr=>by rw [hpart,if_neg hr.1]) (fun id hr=>by
     rw [hpart];by_cases hlt:id < n0
     ·rw [if_pos hlt]
     ·rw [if_neg hlt];cases hh:h id with
      |none=>rfl
      |some ob=>exact absurd ⟨hlt,(s.low id ob hh).1⟩ hr) g (Qy _)
    have:(fun id=>if eg n0 .all nx nx' id then ((Hc.upto fun i=>Nat.blt i n0||(Nat.ble nx i&&Nat.blt i nx')).union (H.upto fun i=>!(Nat.blt i n0||(Nat.ble nx i&&Nat.blt i nx')))).get id else h id)=fun id=>if ¬id < n0/\¬(nx<=id/\id < nx') then h id else Hc.get id:=by
     funext id;rw [qq9];by_cases hlt:id < n0
     ·rw [if_pos (.inl hlt),if_pos (.inl hlt),if_neg (fun h=>h.1 hlt)]
     ·by_cases hnew:nx<=id/\id < nx'
      ·rw [if_pos (.inr hnew),if_pos (.inr hnew),if_neg (fun h=>h.2 hnew)]
      ·rw [if_neg (fun h=>h.elim hlt hnew),if_pos ⟨hlt,hnew⟩]
    rw [this];exact gf
   |panicked _=>exact he.elim
   |outgrown=>exact he.elim
  ·cases hd
 |borrow=>
  simp only [bU,cond_eq_ite] at hd;split at hd
  ·rename_i hpl;split at hd
   ·rename_i v1 H1 oc hc;cases hd;obtain⟨_,_,hb⟩:=jc hc;have hb':bz AV.plain args=true/\d_ (cf f args .leaf 0) false=some v:=by
     rcases hb with hb|⟨as,has,hb⟩
     ·exact hb
     ·simp only [bK,hpl,cond_true] at hc;split at hc
      ·rename_i r hr;cases hc;exact⟨hpl,hr⟩
      ·cases hc
    refine⟨Qy _,fun id _=>rfl,?_,fun φ K h w cargs s _ hargs=>?_⟩
    ·obtain⟨_,hr⟩:=hb';unfold d_ at hr;split at hr
     ·cases hr
     ·rename_i qxc;exact(hcf _ _ _ _ _ _ _ qxc).1
    ·rw [none_touch];exact(k4 hcf s (H:=.leaf) (fun id o hh=>by cases hh) hargs (.inl hb')).2
   ·cases hd
  ·rename_i hpl;split at hd
   ·rename_i v1 H1 oc hc;cases hd;obtain⟨_,_,hb⟩:=jc hc;refine⟨Qy _,fun id _=>rfl,?_,fun φ K h w cargs s ha hargs=>?_⟩
    ·rcases hb with ⟨_,hr⟩|⟨as,_,hr⟩ <;>
     ·unfold d_ at hr;split at hr
      ·cases hr
      ·rename_i qxc;exact(hcf _ _ _ _ _ _ _ qxc).1
    ·rw [none_touch];have hall:=ha .all (Qh.2 rfl);simp only [fO] at hall;refine(k4 hcf s (H:=H.upto fun i=>Nat.blt i n0) (fun id ob hh=>?_) hargs hb).2;rw [m5] at hh;split at hh
     ·rename_i hlt;rw [Qp] at hlt;rw [hall id hlt];exact hh
     ·cases hh
   ·cases hd
end
end Go.Ax
namespace Go.Ax
open Classical
def Nh (f:Nat->AV):aH->AV
 |.t n=>f n
 |.c v=>v
def qf (φ:fm) (K:Nat->Prop) (w:World) (f:Nat->AV) (a:Act):Prop:=∀t,aG φ K w (f t) (a.tmps.getD t undef)
def ij (f:Nat->AV):Option (Nat×Bool)->Bool
 |none=>true
 |some (g,b)=>match f g with
  |.bool b'=>b' == b
  |_=>false
def Bg (f:Nat->AV) (d:Option Nat) (v:AV):Nat->AV:=fun t=>if d=some t then v else f t
def Jw:aH->List Nat
 |.t n=>[n]
 |.c _=>[]
def av.tu (o:av):List Nat:=o.op.cg.flatMap Jw++(match o.gd with|some (g,_)=>[g]|none=>[])
theorem wo (e:Env) (gd:Option (Nat×Bool)):wanted e gd=ij (fun t=>ev e (.t t)) gd:=by
 cases gd with
 |none=>rfl
 |some p=>
  obtain⟨g,b⟩:=p;simp only [wanted,ij,ev];cases e.get g with
  |none=>rfl
  |some v=>cases v<;>rfl
section
variable {top:Nat} {P:Program} {φ:fm} {K:Nat->Prop} {h:aW} {w:World} {H H':ay} {nx nx' n0:Nat} {o:Oper} {nt:Nat} {cf:eI} {v:AV} {cR:List Rd} {bX:Ip}
theorem qf.Lu {f:Nat->AV} {a:Act} (he:qf φ K w f a):∀x y,bn x y=true->aG φ K w (Nh f y) (a.eval x):=by
 intro x y hm;unfold bn at hm;split at hm
 ·rw [Qn] at hm;subst hm;exact he _
 ·exact .pure (rY hm K w).1
 ·rw [Qn] at hm;subst hm;exact .pure (.func _)
 ·cases hm
theorem qf.keep {φ':fm} {K':Nat->Prop} {h':aW} {w':World} {f:Nat->AV} {a:Act} (he:qf φ K w f a) (s:bM top φ K h nx w) (g:cq top φ K h nx w φ' K' h' nx' w'):qf φ' K' w' f a:=fun t=>g.val s (he t)
theorem wW {f:Nat->AV} {d:Option Nat} {V:Value} {a:Act} (he:qf φ K w f a) (hs:a.tmps.size=nt) (hd:∀t,d=some t->t < nt) (hv:aG φ K w v V):qf φ K w (Bg f d v) (a.put d V)/\(a.put d V).tmps.size=nt/\(a.put d V).defers=a.defers:=by
 cases d with
 |none=>exact⟨fun t=>by simpa [Bg,Act.put] using he t,hs,rfl⟩
 |some d=>
  have hlt:=hd d rfl;refine⟨fun t=>?_,by simp [Act.put,hs],rfl⟩;simp only [Bg,Act.put,Array.getD_eq_getD_getElem?,Array.getElem?_setIfInBounds,Option.some.injEq];by_cases ht:d=t
  ·subst ht;rw [if_pos rfl,if_pos rfl,if_pos (by omega)];exact hv
  ·rw [if_neg ht,if_neg ht];have:=he t;rwa [Array.getD_eq_getD_getElem?] at this
theorem qv {f:Nat->AV} {a:Act} (he:qf φ K w f a) {ops:Array Oper} {gd:Option (Nat×Bool)} (hm:JN ops o.guard gd=true):Region.wanted o (yielded ops a.tmps)=ij f gd:=by
 unfold Region.wanted;cases hg:o.guard with
 |none=>
  rw [hg] at hm;cases gd with
  |none=>rfl
  |some p=>cases hm
 |some p=>
  obtain⟨j,b⟩:=p;rw [hg] at hm;cases gd with
  |none=>cases hm
  |some q=>
   obtain⟨t,b'⟩:=q;simp only [JN,Qk,beq_iff_eq] at hm;obtain⟨rfl,hm⟩:=hm;split at hm
   ·rename_i t' ht';rw [Qn] at hm;subst hm;have hr:=he t';rw [Array.getD_eq_getD_getElem?] at hr;simp only [yielded,ht',Option.bind_some,ij];cases hv:f t' with
    |bool x=>
     rw [hv] at hr;cases hc:a.tmps[t']? with
     |none=>rw [hc] at hr;have hr2:=dH hr;cases hr2
     |some V=>rw [hc] at hr;have hr2:=dH hr;simp at hr2;subst hr2;simp
    |_=>
     rw [hv] at hr;split
     ·rename_i x hx;rw [hx] at hr;cases jH hr
     ·rfl
   ·cases hm
theorem y4 {op:dV} {f:Nat} {args:List aH} {m:Mode} (hk:kind op=.call f args m):op=.call f args m:=by cases op<;>cases hk;rfl
theorem xh {op:dV} {f:aH} {args:List aH} {m:Mode} (hk:kind op=.cN f args m):op=.cN f args m:=by cases op<;>cases hk;rfl
theorem Ec (hcf:j7 P cf) (hup:lY cf) {ao:av} (hm:Gz P o ao.op=true) {ρ0:aH->AV} (hn0:n0<=nx) (hd:ee cf n0 ao ρ0 H nx=some (v,H',nx',cR,bX)) :
  nx<=nx'/\(∀id,¬eg n0 bX nx nx' id->H'.get id=H.get id)/\(dJ ao=true->cR=[]/\bX=.ids [])/\(j_ ao=true->bX=.ids [])/\
  ∀(φ:fm) (K:Nat->Prop) (h:aW) (w:World) (a:Act) (ρ:aH->AV),bM nx' φ K h nx w->(∀rd,rd∈cR->fO n0 h H.get rd)->(∀x y,bn x y=true->aG φ K w (ρ y) (a.eval x))->(∀x,x∈ao.op.cg->ρ x=ρ0 x)->
   EL nx' P φ K h nx w o a v (fun id=>if eg n0 bX nx nx' id then H'.get id else h id) nx':=by
 unfold ee at hd;rw [cond_eq_ite] at hd;split at hd
 ·rename_i hfz;split at hd
  ·rename_i len zero parts hop;split at hd
   ·cases hd
   ·rename_i vs hvs;split at hd
    ·rename_i v' hp;cases hd;have ht:∀id,eg n0 (.ids ((parts.map fun p=>ρ0 p.2.2).flatMap (bt deep H))) nx nx id↔id∈(parts.map fun p=>ρ0 p.2.2).flatMap (bt deep H):=fun id=>⟨fun h=>h.elim (fun h=>h) (fun h=>by omega),fun h=>.inl h⟩
     refine⟨Qy _,fun id hn=>?_,fun hf=>?_,fun hf=>?_,fun φ K h w a ρ s ha hρ qxS=>?_⟩
     ·rw [gY,if_neg (fun h=>hn ((ht id).2 h))]
     ·simp [dJ,hfz] at hf
     ·simp [j_,hfz] at hf
     ·rw [hop] at hm qxS;have qxN:(parts.map fun p=>ρ p.2.2)=parts.map fun p=>ρ0 p.2.2:=List.map_congr_left (fun p hp=>qxS p.2.2 (Qi.2 ⟨p,hp,rfl⟩))
      have hp':c5 (mR H ρ) len zero parts=some (.val v):=by rw [←hp];simp only [c5];rw [jP parts zero (ρ:=mR H ρ) (ρ':=mR H ρ0) (fun x hx=>by simp only [mR,qxS x hx])]
      have h1:=xg (o:=o) s hρ hm (H:=H) (fun id hid=>by rw [qxN] at hid;exact ha (.obj id) (Qi.2 ⟨id,hid,rfl⟩)) (by rw [qxN];exact hvs) hp' (Qy nx)
      rw [qxN] at h1;have e:(fun id=>if eg n0 (.ids ((parts.map fun p=>ρ0 p.2.2).flatMap (bt deep H))) nx nx id then (drop H ((parts.map fun p=>ρ0 p.2.2).flatMap (bt deep H))).get id else h id)=fun id=>if id∈(parts.map fun p=>ρ0 p.2.2).flatMap (bt deep H) then none else h id:=by
       funext id;by_cases hid:id∈(parts.map fun p=>ρ0 p.2.2).flatMap (bt deep H)
       ·rw [if_pos ((ht id).2 hid),if_pos hid,gY,if_pos hid]
       ·rw [if_neg (fun h=>hid ((ht id).1 h)),if_neg hid]
      rw [e];intro next Q hn;exact h1 next Q (fun V w' hE=>hn V w' (by
       obtain⟨φ',K',g,r⟩:=hE;refine⟨φ',K',?_,r⟩;have e2:(fun id=>if id∈(parts.map fun p=>ρ0 p.2.2).flatMap (bt deep H) then (none:Option dU) else h id)=_:=rfl
       first|exact g|(rw [←e2];exact g)))
    ·cases hd
  ·cases hd
 ·rename_i hfz;unfold j3 at hd;split at hd
  ·rename_i pf hk;split at hd
   ·rename_i p hp;split at hd
    ·rename_i v1 H1 oc hrun;cases hd;obtain⟨l1,l2,l3⟩:=tv (n0:=n0) hrun;refine⟨l1,l2,fun hf=>?_,fun hf=>?_,fun φ K h w a ρ s ha hρ qxS=>?_⟩
     ·obtain⟨q1,q2⟩:=xS (uu hf hk hp);rw [q1,q2];exact⟨rfl,rfl⟩
     ·have:p.bX=[]:=by
       simp only [j_,Qk] at hf;obtain⟨_,hf⟩:=hf;split at hf
       ·rename_i hop;rw [hop] at hk;cases hk;simp only [iJ] at hp;split at hp
        ·cases hp;rfl
        ·split at hp
         ·obtain⟨_,_,rfl⟩:=dw hp;rfl
         ·cases hp
        ·cases hp
       ·rename_i hop;rw [hop] at hk;cases hk;simp only [iW] at hp;split at hp
        ·split at hp
         ·cases hp
         ·cases hp;rfl
        ·cases hp
       ·rename_i hop;rw [hop] at hm;cases hm
       ·rename_i hop;rw [hop] at hm;cases hm
       ·rename_i hop;rw [hop] at hk;cases hk
       ·rename_i hop;rw [hop] at hk;cases hk
       ·exact(xS (uu hf hk hp)).2
      rw [this]
     ·have hpe:pf ρ=some p:=by rw [zl ao.op qxS hk];exact hp
      exact mI (Ct s hρ hm hk hpe) (l3 h ha) (Qy _)
    ·cases hd
   ·cases hd
  ·rename_i f args m hk;have hop:=y4 hk;obtain⟨l1,l2,l3,l4⟩:=sM hcf hup hn0 hd;rw [hop] at hm;simp only [Gz] at hm;split at hm
   ·rename_i g as tys ho;simp only [Qk,Qn] at hm;obtain⟨rfl,hm⟩:=hm;refine⟨l1,l2,fun hf=>?_,fun hf=>?_,fun φ K h w a ρ s ha hρ qxS=>?_⟩
    ·simp [dJ,hop] at hf
    ·cases m with
     |share=>simp [j_,dJ,hop] at hf
     |borrow=>simp only [bU,cond_eq_ite] at hd;split at hd<;>split at hd<;>first|(cases hd;rfl)|cases hd
    ·have hargs:args.map ρ=args.map ρ0:=List.map_congr_left (fun x hx=>qxS x (by rw [hop];exact hx));have ha2:=n7 hρ hm;rw [hargs] at ha2;refine jK (as:=as) l3 ?_ (l4 φ K h w _ s ha ha2);simp [execOp,ho,resolve,Deferred.ofValue,invoke,Act.eval]
   ·cases hm
  ·rename_i f args m hk;have hop:=xh hk;split at hd
   ·rename_i g hg;obtain⟨l1,l2,l3,l4⟩:=sM hcf hup hn0 hd;rw [hop] at hm;simp only [Gz] at hm;split at hm
    ·rename_i x as tys ho;simp only [Qk] at hm;obtain⟨hx,hm⟩:=hm;refine⟨l1,l2,fun hf=>?_,fun hf=>?_,fun φ K h w a ρ s ha hρ qxS=>?_⟩
     ·simp [dJ,hop] at hf
     ·cases m with
      |share=>simp [j_,dJ,hop] at hf
      |borrow=>simp only [bU,cond_eq_ite] at hd;split at hd<;>split at hd<;>first|(cases hd;rfl)|cases hd
     ·have hargs:args.map ρ=args.map ρ0:=List.map_congr_left (fun x hx=>qxS x (by rw [hop];exact Qd _ hx));have hf:=hρ _ _ hx;rw [qxS f (by rw [hop];exact Qc ..),hg] at hf;have hX:=ni hf;have ha2:=n7 hρ hm;rw [hargs] at ha2;refine jK (as:=as) l3 ?_ (l4 φ K h w _ s ha ha2);simp [execOp,ho,resolve,Deferred.ofValue,invoke,hX]
    ·cases hm
   ·cases hd
end
end Go.Ax
namespace Go.Ax
open Classical
def Touch (n0:Nat) (r:Rec) (id:Nat):Prop:=eg n0 r.bX r.xk r.oc id
def zY (P:Program) (ops:Array Oper) (nt n0:Nat) (o:Oper) (ao:av) (st st1:St) (r:Rec) (v:AV):Prop:=
 ∀(φ:fm) (K:Nat->Prop) (h:aW) (w:World) (a:Act) (f:Nat->AV),bM st1.nx φ K h st.nx w->(∀rd,rd∈r.cR->fO n0 h st.H.get rd)->qf φ K w f a->(∀t,t∈ao.tu->f t=ev st.env (.t t))->a.tmps.size=nt->a.defers=[]->
  ∀(next:Act->World->Prop) (Q:Exit->Act->World->Prop),
   (∀a' w',(∃φ' K',cq st1.nx φ K h st.nx w φ' K' (fun id=>if Touch n0 r id then st1.H.get id else h id) st1.nx w'/\qf φ' K' w' (Bg f ao.dst v) a'/\a'.tmps.size=nt/\a'.defers=[])->next a' w')->
   if Region.wanted o (yielded ops a.tmps) then o.wp P a w next Q else next (a.put o.dst undef) w
theorem Ad {nt:Nat} {e e':Env} {d:Option Nat} {v:AV} (hp:rz nt e d v=some e'):(∀t,d=some t->t < nt)/\∀t,ev e' (.t t)=if d=some t then v else ev e (.t t):=by
 cases d with
 |none=>cases hp;exact⟨fun t h=>(by cases h),fun t=>by simp⟩
 |some d=>
  simp only [rz,cond_eq_ite,Qp] at hp;split at hp
  ·rename_i hd;cases hp;refine⟨fun t h=>by cases h;exact hd,fun t=>?_⟩;rw [zx];by_cases ht:t=d
   ·subst ht;rw [if_pos rfl,if_pos rfl]
   ·rw [if_neg ht,if_neg (fun h=>ht (Qv h).symm)]
  ·cases hp
theorem eP {P:Program} {ops:Array Oper} {nt n0:Nat} {cf:eI} {o:Oper} {ao:av} {st st1:St} {r:Rec} (hcf:j7 P cf) (hup:lY cf) (hm:rZ P ops o ao=true) (hn0:n0<=st.nx) (hd:bE cf nt n0 ao st=some (st1,r)) :
  (r.H0=st.H/\r.H1=st1.H/\r.xk=st.nx/\r.oc=st1.nx)/\st.nx<=st1.nx/\(∀id,¬Touch n0 r id->st1.H.get id=st.H.get id)/\(dJ ao=true->r.cR=[]/\r.bX=.ids [])/\(j_ ao=true->r.bX=.ids [])/\
  ∃v,(∀t,ev st1.env (.t t)=if ao.dst=some t then v else ev st.env (.t t))/\zY P ops nt n0 o ao st st1 r v:=by
 simp only [rZ,Qk] at hm;obtain⟨⟨h1,h2⟩,h3⟩:=hm;have qxR:=Al h1;unfold bE at hd;rw [cond_eq_ite] at hd;split at hd
 ·rename_i hw;split at hd
  ·cases hd
  ·rename_i v H nx cR bX hE;split at hd
   ·cases hd
   ·rename_i e' hp;cases hd;obtain⟨l1,l2,l3,l4,l5⟩:=Ec hcf hup h3 hn0 hE;obtain⟨p1,p2⟩:=Ad hp;refine⟨⟨rfl,rfl,rfl,rfl⟩,l1,l2,l3,l4,v,p2,?_⟩;intro φ K h w a f s ha hf qxY hs hdf next Q hn;have qjW:∀x,x∈ao.op.cg->Nh f x=ev st.env x:=by
     intro x hx;cases x with
     |t n=>exact qxY n (List.mem_append_left _ (List.mem_flatMap.2 ⟨_,hx,by simp [Jw]⟩))
     |c v=>rfl
    have qze:ij f ao.gd=true:=by
     rw [←hw,wo];cases hg:ao.gd with
     |none=>rfl
     |some q=>obtain⟨g,b⟩:=q;simp only [ij];rw [qxY g (List.mem_append_right _ (by rw [hg];simp))]
    rw [qv hf h2,if_pos qze];refine l5 φ K h w a (Nh f) s ha hf.Lu qjW next Q (fun V w' hEn=>?_);obtain⟨φ',K',g,hv⟩:=hEn;obtain⟨q1,q2,q3⟩:=wW (nt:=nt) (d:=ao.dst) (hf.keep s g) hs p1 hv;rw [←qxR] at q1 q2 q3;exact hn _ _ ⟨φ',K',g,by rw [←qxR];exact q1,q2,by rw [q3,hdf]⟩
 ·rename_i hw;split at hd
  ·cases hd
  ·rename_i e' hp;cases hd;obtain⟨p1,p2⟩:=Ad hp;have hno:∀id,¬Touch n0 ⟨[],.ids [],st.H,st.H,st.nx,st.nx⟩ id:=fun id h=>h.elim (fun h=>by cases h) (fun h=>by have h':st.nx<=id/\id < st.nx:=h;omega)
   refine⟨⟨rfl,rfl,rfl,rfl⟩,Qy _,fun id _=>rfl,fun _=>⟨rfl,rfl⟩,fun _=>rfl,c8,p2,?_⟩;intro φ K h w a f s ha hf qxY hs hdf next Q hn;have qze:ij f ao.gd=false:=by
    have:wanted st.env ao.gd=false:=by simpa using hw
    rw [←this,wo];cases hg:ao.gd with
    |none=>rfl
    |some q=>obtain⟨g,b⟩:=q;simp only [ij];rw [qxY g (List.mem_append_right _ (by rw [hg];simp))]
   rw [qv hf h2,qze];obtain⟨q1,q2,q3⟩:=wW (nt:=nt) (d:=ao.dst) hf hs p1 oe;rw [←qxR] at q1 q2 q3;refine hn _ _ ⟨φ,K,?_,by rw [←qxR];exact q1,q2,by rw [q3,hdf]⟩;have e:(fun id=>if Touch n0 ⟨[],.ids [],st.H,st.H,st.nx,st.nx⟩ id then st.H.get id else h id)=h:=by funext id;rw [if_neg (hno id)]
   show cq st.nx φ K h st.nx w φ K (fun id=>if Touch n0 ⟨[],.ids [],st.H,st.H,st.nx,st.nx⟩ id then st.H.get id else h id) st.nx w;rw [e];exact cq.refl s
theorem trace {cf:eI} {nt n0:Nat}:∀(al:List av) (st st':St) (rs:List Rec),cZ cf nt n0 al st=some (st',rs)->
  ∃(S:Nat->St) (R:Nat->Rec),S 0=st/\S al.length=st'/\rs.length=al.length/\∀k ao,al[k]?=some ao->rs[k]?=some (R k)/\bE cf nt n0 ao (S k)=some (S (k+1),R k)
 |[],st,st',rs,h=>by cases h;exact⟨fun _=>st,fun _=>⟨[],.ids [],.leaf,.leaf,0,0⟩,rfl,rfl,rfl,fun k ao h=>by simp at h⟩
 |ao::al,st,st',rs,h=>by
  simp only [cZ] at h;split at h
  ·cases h
  ·rename_i st1 r h1;split at h
   ·cases h
   ·rename_i st2 l h2;cases h;obtain⟨S,R,s1,s2,s3,s4⟩:=trace al st1 st' l h2;refine⟨fun k=>match k with|0=>st|k+1=>S k,fun k=>match k with|0=>r|k+1=>R k,rfl,s2,by simp [s3],fun k ao' hk=>?_⟩;cases k with
    |zero=>simp at hk;subst hk;exact⟨rfl,by show bE cf nt n0 ao st=some (S 0,r);rw [s1];exact h1⟩
    |succ k=>simp at hk;exact s4 k ao' hk
theorem uj {P:Program} {ops:Array Oper}:∀{l:List Oper} {al:List av},mL P ops l al=true->l.length=al.length/\∀(k:Nat) (o:Oper),l[k]?=some o->∃ao,al[k]?=some ao/\rZ P ops o ao=true
 |[],[],_=>⟨rfl,fun k o h=>by simp at h⟩
 |[],_::_,h=>by cases h
 |_::_,[],h=>by cases h
 |o::l,ao::al,h=>by
  simp only [mL,Qk] at h;obtain⟨h1,h2⟩:=uj h.2;refine⟨by simp [h1],fun k o' hk=>?_⟩;cases k with
  |zero=>simp at hk;subst hk;exact⟨ao,rfl,h.1⟩
  |succ k=>simp at hk;exact h2 k o' hk
def Bu (l:List Nat) (n:Nat):Bool:=l.any fun x=>Nat.beq x n
theorem nO {l:List Nat} {n:Nat}:Bu l n=true↔n∈l:=by simp only [Bu,List.any_eq_true,Qn];exact⟨fun ⟨x,h1,h2⟩=>h2▸h1,fun h=>⟨n,h,rfl⟩⟩
def vX (a b:av):Bool:=
 (match a.dst with|none=>true|some d=>!Bu b.tu d&&(match b.dst with|none=>true|some d'=>!Nat.beq d' d))&&(match b.dst with|none=>true|some d=>!Bu a.tu d)
def Gy (pairs:List (Nat×Nat)) (i j:Nat) (a b:av):Bool:=
 vX a b&&(dJ a||dJ b||(j_ a&&j_ b)||pairs.any fun p=>Nat.beq p.1 i&&Nat.beq p.2 j)
def zg (ops:Array Oper) (ahead:List (List Nat)):Bool:=(List.range ops.size).all fun i=>match ops[i]? with
 |none=>false
 |some o=>match ahead[i]? with
  |none=>false
  |some ah=>(o.after.toList.all fun e=>!Region.binds .any e||Nat.blt e.on i)&&
    (ah.all fun x=>o.after.toList.any fun e=>Region.binds .any e&&(Nat.beq e.on x||(match ahead[e.on]? with|some ah'=>Bu ah' x|none=>false)))
def JO (al:List av) (ahead:List (List Nat)) (pairs:List (Nat×Nat)):Bool:=(List.range al.length).all fun j=>(List.range j).all fun i=>match ahead[j]? with
 |none=>false
 |some ah=>Bu ah i||(match al[i]? with
  |none=>false
  |some a=>match al[j]? with
   |none=>false
   |some b=>Gy pairs i j a b)
def Am (P:Program) (ops:Array Oper) (al:List av) (ahead:List (List Nat)) (pairs:List (Nat×Nat)):Bool:=
 mL P ops ops.toList al&&Nat.beq ahead.length al.length&&zg ops ahead&&JO al ahead pairs
end Go.Ax
namespace Go.Ax
open Classical
mutual
theorem FQ:∀(a b:AV),gb a b=true->a=b
 |.bool a,b,h=>by cases b<;>first|(simp only [gb,beq_iff_eq] at h;rw [h])|cases h
 |.int k a,b,h=>by
  cases b<;>first|cases h|skip
  simp only [gb,Qk,mS,Qq] at h;rw [oU h.1,h.2]
 |.str a,b,h=>by cases b<;>first|(simp only [gb,Qq] at h;rw [h])|cases h
 |.jj,b,h=>by cases b<;>first|rfl|cases h
 |.ak,b,h=>by cases b<;>first|rfl|cases h
 |.ptr a1 a2 a3,b,h=>by
  cases b<;>first|cases h|skip
  simp only [gb,Qk,Qn] at h;rw [h.1.1,h.1.2,h.2]
 |.fh cs off,b,h=>by
  cases b<;>first|cases h|skip
  simp only [gb,Qk,Qn] at h;rw [gU _ _ h.1,h.2]
 |.b6 cs n c,b,h=>by
  cases b<;>first|cases h|skip
  simp only [gb,Qk,Qn,Qq] at h;rw [gU _ _ h.1.1,h.1.2,h.2]
 |.ref a1 a2 a3 a4 a5 a6 a7,b,h=>by
  cases b<;>first|cases h|skip
  simp only [gb,Qk,Qn,beq_iff_eq] at h;obtain⟨⟨⟨⟨⟨⟨h1,h2⟩,h3⟩,h4⟩,h5⟩,h6⟩,h7⟩:=h;rw [h1,h2,h3,h4,h5,h6,h7]
 |.agg cs,b,h=>by
  cases b<;>first|cases h|skip
  simp only [gb] at h;rw [gU _ _ h]
 |.dM cs,b,h=>by
  cases b<;>first|cases h|skip
  simp only [gb] at h;rw [gU _ _ h]
 |.func f,b,h=>by
  cases b<;>first|cases h|skip
  simp only [gb,Qn] at h;rw [h]
 |.j5 f,b,h=>by
  cases b<;>first|cases h|skip
  simp only [gb,Qn] at h;rw [h]
theorem gU:∀(a b:List AV),kU a b=true->a=b
 |[],[],_=>rfl
 |[],_::_,h=>by cases h
 |_::_,[],h=>by cases h
 |x::xs,y::ys,h=>by simp only [kU,Qk] at h;rw [FQ _ _ h.1,gU _ _ h.2]
end
theorem Cr {A B C:ay} {r:yp} (h:tM A B C r=true):cM A (some r)=cM C (some r)/\cM B (some r)=cM C (some r):=by
 unfold tM at h;split at h
 ·rename_i x y z h1 h2 h3;simp only [Qk] at h;rw [h1,h2,h3,gU _ _ h.1,gU _ _ h.2];exact⟨rfl,rfl⟩
 ·cases h
structure n_ (P:Program) (ops:Array Oper) (nt:Nat) (al:List av) (ahead:List (List Nat)) (pairs:List (Nat×Nat)) (st st':St) (S:Nat->St) (R:Nat->Rec) (V:Nat->AV):Prop where
 first:S 0=st
 last:S al.length=st'
 len:ops.size=al.length
 yW:∀k,k < al.length->(R k).H0=(S k).H/\(R k).H1=(S (k+1)).H/\(R k).xk=(S k).nx/\(R k).oc=(S (k+1)).nx
 up:∀k,k < al.length->(S k).nx<=(S (k+1)).nx
 rest:∀k,k < al.length->∀id,¬Touch st.nx (R k) id->(S (k+1)).H.get id=(S k).H.get id
 env:∀k ao,al[k]?=some ao->∀t,ev (S (k+1)).env (.t t)=if ao.dst=some t then V k else ev (S k).env (.t t)
 step:∀k o ao,ops[k]?=some o->al[k]?=some ao->zY P ops nt st.nx o ao (S k) (S (k+1)) (R k) (V k)
 FW:∀(i:Nat) (o:Oper) (e:Edge),ops[i]?=some o->e∈o.after->Region.binds .any e=true->e.on < i
 Kf:∀(i:Nat) (ah:List Nat) (x:Nat),ahead[i]?=some ah->x∈ah->∃(o:Oper) (e:Edge),ops[i]?=some o/\e∈o.after/\Region.binds .any e=true/\(e.on=x\/∃ah',ahead[e.on]?=some ah'/\x∈ah')
 known:∀k,k < al.length->∃ah,ahead[k]?=some ah/\(∀rd,rd∈(R k).cR->∀id,(rd=.obj id\/∃r:yp,rd=.qh r/\r.id=id)->id < st.nx\/∃i,i∈ah/\i < al.length/\(R i).xk<=id/\id < (R i).oc)/\
  (∀l,(R k).bX=.ids l->∀id,id∈l->id < st.nx\/∃i,i∈ah/\i < al.length/\(R i).xk<=id/\id < (R i).oc)
 pair:∀i j,i < j->j < al.length->(∃ah,ahead[j]?=some ah/\i∈ah)\/∃a b,al[i]?=some a/\al[j]?=some b/\vX a b=true/\
  ((R i).bX=.ids []\/∀rd,rd∈(R j).cR->fX (R i) (R j) rd=true)/\((R j).bX=.ids []\/∀rd,rd∈(R i).cR->fX (R j) (R i) rd=true)/\apart (R i) (R j)=true
theorem k9 {a b:Rec} (h:a.bX=.ids []):apart a b=true:=by unfold apart;rw [h];cases b.bX<;>rfl
theorem qc {a b:Rec} (h:b.bX=.ids []):apart a b=true:=by
 unfold apart;rw [h];cases a.bX with
 |ids l=>simp
 |all=>rfl
theorem DX {n0:Nat} {rs:List Rec} {ah:List Nat} {id:Nat} (h:xM n0 rs ah id=true):id < n0\/∃i a,i∈ah/\rs[i]?=some a/\a.xk<=id/\id < a.oc:=by
 simp only [xM,Ql,Qp,List.any_eq_true] at h;rcases h with h|⟨i,hi,h⟩
 ·exact .inl h
 ·split at h
  ·rename_i a ha;simp only [Qk,Qo,Qp] at h;exact .inr ⟨i,a,hi,ha,h.1,h.2⟩
  ·cases h
theorem pM {n0:Nat} {rs:List Rec}:∀{as:List (List Nat)} {l:List Rec},gN n0 rs as l=true->∀(k:Nat) (r:Rec),l[k]?=some r->∃ah,as[k]?=some ah/\r.cR.all (CI n0 rs ah)=true/\tI n0 rs ah r.bX=true
 |[],[],_,k,r,h=>by simp at h
 |[],_::_,h,_,_,_=>by cases h
 |_::_,[],h,_,_,_=>by cases h
 |a::as,r0::l,h,k,r,hk=>by
  simp only [gN,Qk] at h;cases k with
  |zero=>simp at hk;subst hk;exact⟨a,rfl,h.1.1,h.1.2⟩
  |succ k=>simp at hk;exact pM h.2 k r hk
theorem G7 {P:Program} {ops:Array Oper} {nt:Nat} {cf:eI} (hcf:j7 P cf) (hup:lY cf) {al:List av} {ahead:List (List Nat)} {pairs:List (Nat×Nat)} {st st':St} (hm:Am P ops al ahead pairs=true) (hd:b_ cf nt al ahead pairs st=some st') :
  ∃S R V,n_ P ops nt al ahead pairs st st' S R V:=by
 simp only [Am,Qk,Qn] at hm;obtain⟨⟨⟨hmo,hal⟩,hme⟩,hma⟩:=hm;obtain⟨hlen,qw1⟩:=uj hmo;rw [Array.length_toList] at hlen;unfold b_ at hd;split at hd
 ·cases hd
 ·rename_i st2 rs hrun;rw [cond_eq_ite] at hd;split at hd
  ·rename_i qwM;cases hd;simp only [Qk] at qwM;obtain⟨hkn,hpr⟩:=qwM;rw [aJ] at hpr;obtain⟨S,R,s1,s2,s3,s4⟩:=trace al st st' rs hrun;have hao:∀k,k < al.length->∃o ao,ops[k]?=some o/\al[k]?=some ao/\rZ P ops o ao=true:=by
    intro k hk;have ho:ops.toList[k]?=some ops[k]:=by rw [Array.getElem?_toList,Array.getElem?_eq_getElem (by omega)]
    obtain⟨ao,h1,h2⟩:=qw1 k _ ho;exact⟨_,ao,Array.getElem?_eq_getElem (by omega),h1,h2⟩
   have hnx:∀k,k<=al.length->st.nx<=(S k).nx:=by
    intro k
    induction k with
    |zero=>intro _;rw [s1];exact Qy _
    |succ k ih=>intro hk;have ih:=ih (Nat.le_of_succ_le hk);obtain⟨o,ao,h1,h2,h3⟩:=hao k hk;obtain⟨_,h4⟩:=s4 k ao h2;exact Qw ih (eP hcf hup h3 ih h4).2.1
   have hstep:∀k,k < al.length->∃v,∀o ao,ops[k]?=some o->al[k]?=some ao->(∀t,ev (S (k+1)).env (.t t)=if ao.dst=some t then v else ev (S k).env (.t t))/\zY P ops nt st.nx o ao (S k) (S (k+1)) (R k) v:=by intro k hk;obtain⟨o,ao,h1,h2,h3⟩:=hao k hk;obtain⟨_,h4⟩:=s4 k ao h2;obtain⟨_,_,_,_,_,v,h5,h6⟩:=eP hcf hup h3 (hnx k (Nat.le_of_lt hk)) h4;refine⟨v,fun o' ao' h1' h2'=>?_⟩;rw [h1] at h1';rw [h2] at h2';cases h1';cases h2';exact⟨h5,h6⟩
   refine⟨S,R,fun k=>if hk:k < al.length then Classical.choose (hstep k hk) else c8,⟨s1,s2,hlen,fun k hk=>?_,fun k hk=>?_,fun k hk=>?_,fun k ao qjf=>?_,fun k o ao ho qjf=>?_,fun i o e hi he hb=>?_,fun i ah x hi hx=>?_,fun k hk=>?_,fun i j hij hj=>?_⟩⟩
   ·obtain⟨o,ao,h1,h2,h3⟩:=hao k hk;exact(eP hcf hup h3 (hnx k (Nat.le_of_lt hk)) (s4 k ao h2).2).1
   ·obtain⟨o,ao,h1,h2,h3⟩:=hao k hk;exact(eP hcf hup h3 (hnx k (Nat.le_of_lt hk)) (s4 k ao h2).2).2.1
   ·obtain⟨o,ao,h1,h2,h3⟩:=hao k hk;exact(eP hcf hup h3 (hnx k (Nat.le_of_lt hk)) (s4 k ao h2).2).2.2.1
   ·have hk:k < al.length:=(PV.1 qjf).1;rw [dif_pos hk];obtain⟨o,ao2,h1,h2,h3⟩:=hao k hk;exact(Classical.choose_spec (hstep k hk) o ao h1 qjf).1
   ·have hk:k < al.length:=(PV.1 qjf).1;rw [dif_pos hk];exact(Classical.choose_spec (hstep k hk) o ao ho qjf).2
   ·have hio:i < ops.size:=(Array.getElem?_eq_some_iff.1 hi).1;simp only [zg,Qj,List.mem_range] at hme;have:=hme i hio;rw [hi] at this;simp only at this;split at this
    ·cases this
    ·simp only [Qk,Qj] at this;have h1:=this.1 e (Array.mem_toList_iff.2 he);rw [hb] at h1;simpa [Qp] using h1
   ·have hia:i < ahead.length:=(PV.1 hi).1;have hio:i < ops.size:=by omega
    simp only [zg,Qj,List.mem_range] at hme;have:=hme i hio;rw [Array.getElem?_eq_getElem hio,hi] at this;simp only [Qk,Qj,List.any_eq_true,Ql,Qn] at this;obtain⟨e,he1,he2,he3⟩:=this.2 x hx;refine⟨_,e,Array.getElem?_eq_getElem hio,Array.mem_toList_iff.1 he1,he2,?_⟩;rcases he3 with he3|he3
    ·exact .inl he3
    ·split at he3
     ·rename_i ah' qva;exact .inr ⟨ah',qva,nO.1 he3⟩
     ·cases he3
   ·obtain⟨o,ao,h1,h2,h3⟩:=hao k hk;obtain⟨h4,_⟩:=s4 k ao h2;obtain⟨ah,h5,h6,h7⟩:=pM hkn k _ h4;have conv:∀id,xM st.nx rs ah id=true->id < st.nx\/∃i,i∈ah/\i < al.length/\(R i).xk<=id/\id < (R i).oc:=by
     intro id hid;rcases DX hid with h8|⟨i,a,q1,q2,q3,q4⟩
     ·exact .inl h8
     ·have hi:i < al.length:=by rw [←s3];exact(PV.1 q2).1
      obtain⟨_,ao',_,h9,_⟩:=hao i hi;obtain⟨h10,_⟩:=s4 i ao' h9;rw [q2] at h10;cases h10;exact .inr ⟨i,q1,hi,q3,q4⟩
    rw [Qj] at h6;refine⟨ah,h5,fun rd hrd id hid=>?_,fun l hl id hid=>?_⟩
    ·have h8:=h6 rd hrd;rcases hid with rfl|⟨r,rfl,rfl⟩
     ·exact conv _ h8
     ·exact conv _ h8
    ·rw [hl] at h7;simp only [tI,Qj] at h7;exact conv _ (h7 id hid)
   ·simp only [JO,Qj,List.mem_range] at hma;have:=hma j hj i hij;split at this
    ·cases this
    ·rename_i ah hah;simp only [Ql] at this;rcases this with h1|h1
     ·exact .inl ⟨ah,hah,nO.1 h1⟩
     ·right;obtain⟨oi,ai,p1,p2,p3⟩:=hao i (by omega);obtain⟨oj,aj,r1,r2,r3⟩:=hao j hj;rw [p2,r2] at h1;simp only [Gy,Qk,Ql] at h1;obtain⟨h2,h3⟩:=h1;have e1:=eP hcf hup p3 (hnx i (by omega)) (s4 i ai p2).2;have e2:=eP hcf hup r3 (hnx j (by omega)) (s4 j aj r2).2;refine⟨ai,aj,p2,r2,h2,?_⟩;rcases h3 with ((h3|h3)|h3)|h3
      ·obtain⟨q1,q2⟩:=e1.2.2.2.1 h3;exact⟨.inl q2,.inr (by rw [q1];intro rd hrd;cases hrd),k9 q2⟩
      ·obtain⟨q1,q2⟩:=e2.2.2.2.1 h3;exact⟨.inr (by rw [q1];intro rd hrd;cases hrd),.inl q2,qc q2⟩
      ·have q1:=e1.2.2.2.2.1 h3.1;have q2:=e2.2.2.2.2.1 h3.2;exact⟨.inl q1,.inl q2,k9 q1⟩
      ·rw [List.any_eq_true] at h3;obtain⟨p,hp1,hp2⟩:=h3;simp only [Qk,Qn] at hp2;have h4:=hpr p hp1;unfold gE at h4;rw [hp2.1,hp2.2,(s4 i ai p2).1,(s4 j aj r2).1] at h4;simp only [Qk,still,aJ] at h4;exact⟨.inr h4.1.1,.inr h4.1.2,h4.2⟩
  ·cases hd
end Go.Ax
namespace Go.Ax
open Classical
def Wr (al:List av) (k t:Nat):Prop:=∃ao,al[k]?=some ao/\ao.dst=some t
def Ah (ahead:List (List Nat)) (j i:Nat):Prop:=∃ah,ahead[j]?=some ah/\i∈ah
def B1 (ops:Array Oper) (L:Nat->Bool) (i:Nat):Prop:=∀(o:Oper) (e:Edge),ops[i]?=some o->e∈o.after->Region.binds .any e=true->L e.on=true
section
variable {P:Program} {ops:Array Oper} {nt:Nat} {al:List av} {ahead:List (List Nat)} {pairs:List (Nat×Nat)} {st st':St} {S:Nat->St} {R:Nat->Rec} {V:Nat->AV}
theorem n_.Ng (hr:n_ P ops nt al ahead pairs st st' S R V) {L:Nat->Bool} (hL:∀i,L i=true->B1 ops L i):∀(i x:Nat),B1 ops L i->Ah ahead i x->L x=true:=by
 intro i
 induction i using Nat.strongRecOn with
 |_ i ih=>
  rintro x hf ⟨ah,h1,h2⟩;obtain⟨o,e,ho,he,hb,h3⟩:=hr.Kf i ah x h1 h2;have hLe:=hf o e ho he hb;rcases h3 with rfl|⟨ah',h4,h5⟩
  ·exact hLe
  ·exact ih e.on (hr.FW i o e ho he hb) x (hL _ hLe) ⟨ah',h4,h5⟩
theorem n_.lt (hr:n_ P ops nt al ahead pairs st st' S R V):∀(i x:Nat),Ah ahead i x->x < i:=by
 intro i
 induction i using Nat.strongRecOn with
 |_ i ih=>
  rintro x ⟨ah,h1,h2⟩;obtain⟨o,e,ho,he,hb,h3⟩:=hr.Kf i ah x h1 h2;have hlt:=hr.FW i o e ho he hb;rcases h3 with rfl|⟨ah',h4,h5⟩
  ·exact hlt
  ·exact Nat.lt_trans (ih e.on hlt x ⟨ah',h4,h5⟩) hlt
theorem n_.mono (hr:n_ P ops nt al ahead pairs st st' S R V):∀(j i:Nat),i<=j->j<=al.length->(S i).nx<=(S j).nx:=by
 intro j
 induction j with
 |zero=>intro i hi _;rw [Nat.le_zero.1 hi];exact Qy _
 |succ j ih=>
  intro i hi hj;rcases Nat.lt_or_ge i (j+1) with h|h
  ·exact Qw (ih i (by omega) (by omega)) (hr.up j (by omega))
  ·rw [show i=j+1 by omega];exact Qy _
theorem n_.base (hr:n_ P ops nt al ahead pairs st st' S R V) (j:Nat) (hj:j<=al.length):st.nx<=(S j).nx:=by have:=hr.mono j 0 (Qx _) hj;rwa [hr.first] at this
def EW (R:Nat->Rec) (k id:Nat):Prop:=(R k).xk<=id/\id < (R k).oc
theorem n_.nw (hr:n_ P ops nt al ahead pairs st st' S R V) {i k id:Nat} (hi:i < al.length) (hk:k < al.length) (h1:EW R i id) (h2:EW R k id):i=k:=by
 have key:∀{i k:Nat},k < al.length->EW R i id->EW R k id->i < al.length->¬i < k:=by intro i k hk h1 h2 hi hlt;obtain⟨_,_,e1,e2⟩:=hr.yW i hi;obtain⟨_,_,e3,e4⟩:=hr.yW k hk;have:=hr.mono k (i+1) hlt (Nat.le_of_lt hk);have a:=h1.2;have b:=h2.1;rw [e2] at a;rw [e3] at b;omega
 have a:=key hk h1 h2 hi;have b:=key hi h2 h1 hk;omega
theorem n_.vo (hr:n_ P ops nt al ahead pairs st st' S R V) {k id:Nat} (hk:k < al.length) (h:EW R k id):st.nx<=id:=by obtain⟨_,_,e1,_⟩:=hr.yW k hk;have:=hr.base k (Nat.le_of_lt hk);have a:=h.1;rw [e1] at a;omega
noncomputable def hS (st:St) (S:Nat->St) (R:Nat->Rec) (n:Nat) (L:Nat->Bool):aW:=eZ (fun k id=>Touch st.nx (R k) id) st.H.get (fun k id=>(S (k+1)).H.get id) L n
noncomputable def eS (st:St) (S:Nat->St) (al:List av) (L:Nat->Bool):Nat->AV:=eZ (fun k t=>Wr al k t) (fun t=>ev st.env (.t t)) (fun k t=>ev (S (k+1)).env (.t t)) L al.length
theorem n_.hz (hr:n_ P ops nt al ahead pairs st st' S R V):∀k,k < al.length->∀id,(S (k+1)).H.get id=if Touch st.nx (R k) id then (S (k+1)).H.get id else (S k).H.get id:=by
 intro k hk id;by_cases h:Touch st.nx (R k) id
 ·rw [if_pos h]
 ·rw [if_neg h];exact hr.rest k hk id h
theorem n_.ez (hr:n_ P ops nt al ahead pairs st st' S R V):∀k,k < al.length->∀t,ev (S (k+1)).env (.t t)=if Wr al k t then ev (S (k+1)).env (.t t) else ev (S k).env (.t t):=by
 intro k hk t;by_cases h:Wr al k t
 ·rw [if_pos h]
 ·rw [if_neg h];have ha:al[k]?=some al[k]:=PU hk;rw [hr.env k _ ha t,if_neg (fun hd=>h ⟨_,ha,hd⟩)]
theorem n_.free (hr:n_ P ops nt al ahead pairs st st' S R V) {j k:Nat} (hj:j < al.length) (hk:k < al.length) (hne:k≠j) (h1:¬Ah ahead j k) (h2:¬Ah ahead k j) :
  ((R k).bX=.ids []\/∀rd,rd∈(R j).cR->fX (R k) (R j) rd=true)/\(∀id,¬((match (R j).bX with|.ids l=>id∈l|.all=>id < st.nx)/\(match (R k).bX with|.ids l=>id∈l|.all=>id < st.nx)))/\
  ∃a b,al[k]?=some a/\al[j]?=some b/\(∀d,a.dst=some d->d ∉ b.tu)/\(∀d,b.dst=some d->d ∉ a.tu)/\(∀d,a.dst=some d->b.dst≠some d):=by
 have apart_spec:∀{x y:Rec},apart x y=true->∀id,¬((match x.bX with|.ids l=>id∈l|.all=>id < st.nx)/\(match y.bX with|.ids l=>id∈l|.all=>id < st.nx)):=by
  intro x y h id ⟨q1,q2⟩;unfold apart at h;split at h
  ·rename_i l l' e1 e2;rw [e1] at q1;rw [e2] at q2;rw [Qj] at h;have:=h id q1;simp at this;exact this q2
  ·rename_i e1 e2;rw [e2] at q2;cases q2
  ·rename_i e1 e2;rw [e1] at q1;cases q1
  ·cases h
 have apartT_spec:∀{a b:av},vX a b=true->(∀d,a.dst=some d->d ∉ b.tu)/\(∀d,b.dst=some d->d ∉ a.tu)/\(∀d,a.dst=some d->b.dst≠some d):=by
  intro a b h;simp only [vX,Qk] at h;refine⟨fun d hd hm=>?_,fun d hd hm=>?_,fun d hd he=>?_⟩
  ·rw [hd] at h;simp only [Qk,Qm] at h;rw [nO.2 hm] at h;cases h.1.1
  ·rw [hd] at h;have h2:=h.2;simp only [Qm] at h2;rw [nO.2 hm] at h2;cases h2
  ·rw [hd,he] at h;have h2:=h.1;simp only [Qk,Qm] at h2;have h3:=h2.2;rw [show Nat.beq d d=true by rw [Qn]] at h3;cases h3
 rcases Nat.lt_or_ge k j with hlt|hge
 ·rcases hr.pair k j hlt hj with h|⟨a,b,q1,q2,q3,q4,q5,q6⟩
  ·exact absurd h h1
  ·refine⟨q4,fun id h=>apart_spec q6 id ⟨h.2,h.1⟩,a,b,q1,q2,apartT_spec q3⟩
 ·rcases hr.pair j k (by omega) hk with h|⟨b,a,q1,q2,q3,q4,q5,q6⟩
  ·exact absurd h h2
  ·obtain⟨r1,r2,r3⟩:=apartT_spec q3;exact⟨q5,apart_spec q6,a,b,q2,q1,r2,r1,fun d hd hb=>r3 d hb hd⟩
theorem n_.Ki (hr:n_ P ops nt al ahead pairs st st' S R V) {L:Nat->Bool} (hL:∀i,L i=true->B1 ops L i) {j:Nat} (hj:j < al.length) (hLj:L j=false) (qja:B1 ops L j) :
  (∀rd,rd∈(R j).cR->fO st.nx (hS st S R al.length L) (S j).H.get rd)/\∀ao,al[j]?=some ao->∀t,t∈ao.tu->eS st S al L t=ev (S j).env (.t t):=by
 have qzc:∀k,Ah ahead j k->k < j/\L k=true:=fun k h=>⟨hr.lt j k h,hr.Ng hL j k qja h⟩
 have hfree:∀k,k < al.length->k≠j->¬Ah ahead j k->(L k=true\/k < j)->¬Ah ahead k j:=by
  intro k hk hne h1 h2 h3;have:=hr.lt k j h3;rcases h2 with h2|h2
  ·rw [hr.Ng hL k j (hL k h2) h3] at hLj;cases hLj
  ·omega
 obtain⟨ahj,qke,qj3,_⟩:=hr.known j hj;refine⟨fun rd hrd=>?_,fun ao hao t ht=>?_⟩
 ·have main:∀(id:Nat) {β:Type} (f:Option dU->β),(∀k,k < al.length->k≠j->¬Ah ahead j k->EW R k id->False)->
    (∀k,k < al.length->k≠j->(match (R k).bX with|.ids l=>id∈l|.all=>id < st.nx)->((R k).bX=.ids []\/∀rd,rd∈(R j).cR->fX (R k) (R j) rd=true)->f ((S k).H.get id)=f ((S j).H.get id)/\f ((S (k+1)).H.get id)=f ((S j).H.get id))->
    f (hS st S R al.length L id)=f ((S j).H.get id):=by
   intro id β f hnew qjS;refine sj f (fun k id=>(S k).H.get id) (by funext id;rw [hr.first]) hr.hz id hj hLj (Ah ahead j) (fun k hk hne ht=>?_);by_cases ha:Ah ahead j k
   ·exact .inl (qzc k ha)
   ·right;intro hor;rcases ht with ht|ht
    ·exact qjS k hk hne ht (hr.free hj hk hne ha (hfree k hk hne ha hor)).1
    ·exact(hnew k hk hne ha ht).elim
  have hnew:∀id,(rd=.obj id\/∃r:yp,rd=.qh r/\r.id=id)->∀k,k < al.length->k≠j->¬Ah ahead j k->EW R k id->False:=by
   intro id hid k hk hne ha hn;rcases qj3 rd hrd id hid with h|⟨i,hi1,hi2,hi3,hi4⟩
   ·have:=hr.vo hk hn;omega
   ·have:=hr.nw hi2 hk ⟨hi3,hi4⟩ hn;subst this;exact ha ⟨ahj,qke,hi1⟩
  cases rd with
  |qh r=>
   refine main r.id (fun ob=>match ob with|some (.row g cells)=>bif Nat.beq g r.g then cut cells r.off r.len else none|_=>none) (hnew r.id (.inr ⟨r,rfl,rfl⟩)) (fun k hk hne ht hs=>?_);rcases hs with hs|hs
   ·rw [hs] at ht;cases ht
   ·have h1:=hs _ hrd;simp only [fX] at h1;obtain⟨e1,e2,_,_⟩:=hr.yW k hk;obtain⟨e3,_,_,_⟩:=hr.yW j hj;have fin:tM (R k).H0 (R k).H1 (R j).H0 r=true->_:=fun h=>by have h2:=Cr h;rw [e1,e2,e3] at h2;exact h2
    split at h1
    ·rename_i l hl;rw [hl] at ht;rw [cond_eq_ite,if_pos (by simpa using ht)] at h1;exact fin h1
    ·exact fin h1
  |obj id=>
   refine main id (fun ob=>ob) (hnew id (.inl rfl)) (fun k hk hne ht hs=>?_);exfalso;rcases hs with hs|hs
   ·rw [hs] at ht;cases ht
   ·have h1:=hs _ hrd;simp only [fX] at h1;split at h1
    ·rename_i l hl;rw [hl] at ht;simp at h1;exact h1 ht
    ·cases h1
  |all=>
   intro id hid;refine main id (fun ob=>ob) (fun k hk hne ha hn=>by have:=hr.vo hk hn;omega) (fun k hk hne ht hs=>?_);exfalso;rcases hs with hs|hs
   ·rw [hs] at ht;cases ht
   ·have h1:=hs _ hrd;simp only [fX] at h1;split at h1
    ·rename_i hl;rw [hl] at ht;cases ht
    ·cases h1
 ·refine sj (fun v=>v) (fun k t=>ev (S k).env (.t t)) (by funext t;rw [hr.first]) hr.ez t hj hLj (Ah ahead j) (fun k hk hne hw=>?_);by_cases ha:Ah ahead j k
  ·exact .inl (qzc k ha)
  ·right;intro hor;exfalso;obtain⟨_,_,a,b,q1,q2,q3,_⟩:=hr.free hj hk hne ha (hfree k hk hne ha hor);obtain⟨a',h1,h2⟩:=hw;rw [q1] at h1;cases h1;rw [hao] at q2;cases q2;exact q3 t h2 ht
theorem n_.put (hr:n_ P ops nt al ahead pairs st st' S R V) {L L':Nat->Bool} (hL:∀i,L i=true->B1 ops L i) {j:Nat} (hj:j < al.length) (hLj:L j=false) (qja:B1 ops L j) (hj1:L' j=true) (hj2:∀k,k≠j->L' k=L k) :
  (hS st S R al.length L'=fun id=>if Touch st.nx (R j) id then (S (j+1)).H.get id else hS st S R al.length L id)/\∀ao,al[j]?=some ao->eS st S al L'=Bg (eS st S al L) ao.dst (V j):=by
 have hno:∀k,j < k->L k=true->¬Ah ahead j k/\¬Ah ahead k j:=fun k hk hLk=>⟨fun h=>by have:=hr.lt j k h;omega,fun h=>by rw [hr.Ng hL k j (hL k hLk) h] at hLj;cases hLj⟩
 refine⟨funext fun id=>?_,fun ao hao=>funext fun t=>?_⟩
 ·refine ur hj hLj hj1 hj2 id (fun ht k hjk hk hLk htk=>?_);obtain⟨n1,n2⟩:=hno k hjk hLk;obtain⟨_,hap,_⟩:=hr.free hj hk (by omega) n1 n2;obtain⟨ahj,qke,_,hkj⟩:=hr.known j hj;obtain⟨ahk,qw9,_,hkk⟩:=hr.known k hk;have old:∀{m:Nat} {ahm:List Nat},ahead[m]?=some ahm->(∀l,(R m).bX=.ids l->∀id,id∈l->id < st.nx\/∃i,i∈ahm/\i < al.length/\(R i).xk<=id/\id < (R i).oc)->(match (R m).bX with|.ids l=>id∈l|.all=>id < st.nx)->∀p,p < al.length->EW R p id->Ah ahead m p:=by
   intro m ahm hm hk1 ht1 p hp hn;have hge:=hr.vo hp hn;cases htm:(R m).bX with
   |all=>rw [htm] at ht1;have ht1':id < st.nx:=ht1;omega
   |ids l=>
    rw [htm] at ht1;rcases hk1 l htm id ht1 with h|⟨i,hi1,hi2,hi3,hi4⟩
    ·omega
    ·have:=hr.nw hi2 hp ⟨hi3,hi4⟩ hn;subst this;exact⟨ahm,hm,hi1⟩
  rcases ht with ht|ht
  ·rcases htk with htk|htk
   ·exact hap id ⟨ht,htk⟩
   ·exact n1 (old qke hkj ht k hk htk)
  ·rcases htk with htk|htk
   ·exact n2 (old qw9 hkk htk j hj ht)
   ·have:=hr.nw hj hk ht htk;omega
 ·have h1:=ur (T:=fun k t=>Wr al k t) (x0:=fun t=>ev st.env (.t t)) (y:=fun k t=>ev (S (k+1)).env (.t t)) hj hLj hj1 hj2 t (fun ht k hjk hk hLk htk=>by obtain⟨n1,n2⟩:=hno k hjk hLk;obtain⟨_,_,a,b,q1,q2,_,_,q3⟩:=hr.free hj hk (by omega) n1 n2;obtain⟨a',h1,h2⟩:=htk;obtain⟨b',h3,h4⟩:=ht;rw [q1] at h1;cases h1;rw [q2] at h3;cases h3;exact q3 t h2 h4)
  show eZ _ _ _ L' al.length t=_;rw [h1];simp only [Bg];by_cases hd:ao.dst=some t
  ·rw [if_pos ⟨ao,hao,hd⟩,if_pos hd,hr.env j ao hao t,if_pos hd]
  ·rw [if_neg (fun ⟨ao',h1,h2⟩=>hd (by rw [hao] at h1;cases h1;exact h2)),if_neg hd];rfl
theorem n_.EF (hr:n_ P ops nt al ahead pairs st st' S R V) {L:Nat->Bool} (hL:∀k,k < al.length->L k=true):hS st S R al.length L=st'.H.get/\eS st S al L=fun t=>ev st'.env (.t t):=by
 constructor
 ·have h:=sn (T:=fun k id=>Touch st.nx (R k) id) (x0:=st.H.get) (y:=fun k id=>(S (k+1)).H.get id) (L:=L) (n:=al.length) (fun k id=>(S k).H.get id) (by funext id;rw [hr.first]) hr.hz hL;show eZ _ _ _ L al.length=_;rw [h,hr.last]
 ·have h:=sn (T:=fun k t=>Wr al k t) (x0:=fun t=>ev st.env (.t t)) (y:=fun k t=>ev (S (k+1)).env (.t t)) (L:=L) (n:=al.length) (fun k t=>ev (S k).env (.t t)) (by funext id;rw [hr.first]) hr.ez hL;show eZ _ _ _ L al.length=_;rw [h,hr.last]
end
end Go.Ax
namespace Go.Ax
open Classical
section
variable {top:Nat} {φ φ' φ1:fm} {K K' K1:Nat->Prop} {h h' h1:aW} {nx nx' a b:Nat} {w w' w1:World}
theorem cq.zero (g:cq top φ K h nx w φ' K' h' nx' w') (ha:a<=nx) (hb:nx'<=b):cq 0 φ K h a w φ' K' h' b w':=by
 have hle:=g.nx;refine⟨g.Bi,g.k,⟨g.nc.j8,g.nc.row,g.nc.map,g.nc.inj,fun id ob hh=>⟨fun hx=>by omega,(g.nc.low id ob hh).2⟩,fun id gg _ hx=>by omega⟩,g.ext,g.mu,g.tw,fun id gg p hp=>?_,fun id hd=>?_,by omega⟩
 ·rcases g.fr id gg p hp with q|q|q
  ·exact .inl q
  ·exact .inr (.inl (by omega))
  ·exact .inr (.inr q)
 ·rcases g.dom id hd with q|q
  ·exact .inl q
  ·exact .inr (by omega)
theorem cq.two (g:cq 0 φ K h a w φ1 K1 h1 b w1) (g':cq 0 φ1 K1 h1 a w1 φ' K' h' b w'):cq 0 φ K h a w φ' K' h' b w':=by
 refine⟨fun id gg p hp=>g'.Bi _ _ _ (g.Bi _ _ _ hp),fun b hb=>g'.k b (g.k b hb),g'.nc,g.ext.trans g'.ext g.mu,fun b hb=>(g'.mu b hb).elim (g.mu b) (fun hl=>.inr (Qw g.ext.size hl)),fun b hb=>?_,fun id gg p hp=>?_,fun id hd=>?_,g.nx⟩
 ·rcases g'.tw b hb with h1|h1|h1
  ·exact g.tw b h1
  ·exact .inr (.inl (Qw g.ext.size h1))
  ·rcases g.mu b h1 with h2|h2
   ·exact .inr (.inr h2)
   ·exact .inr (.inl h2)
 ·rcases g'.fr id gg p hp with q|q|q
  ·exact g.fr id gg p q
  ·exact .inr (.inl q)
  ·rcases g.dom id q with r|r
   ·exact .inr (.inr r)
   ·exact .inr (.inl r)
 ·rcases g'.dom id hd with q|q
  ·exact g.dom id q
  ·exact .inr q
theorem bM.B3 (s:bM 0 φ K h nx w) (hn:∀id,a<=id->id < b->(∀g,φ id g=none)/\h id=none):bM b φ K h a w:=
 ⟨s.j8,s.row,s.map,s.inj,fun id ob hh=>⟨fun hx=>(by rw [(hn id hx.1 hx.2).2] at hh;cases hh),(s.low id ob hh).2⟩,fun id g h1 h2=>(hn id h1 h2).1 g⟩
theorem cq.back (s:bM top φ K h nx w) (g:cq 0 φ K h nx w φ' K' h' nx' w'):cq top φ K h nx w φ' K' h' nx' w':=by
 have hle:=g.nx;have hnone:∀id,nx'<=id->id < top->(∀gg,φ' id gg=none)/\h' id=none:=by
  intro id h1 h2;have hh:h id=none:=by
   cases hh:h id with
   |none=>rfl
   |some ob=>exact absurd ⟨by omega,h2⟩ (s.low id ob hh).1
  refine⟨fun gg=>?_,?_⟩
  ·cases hp:φ' id gg with
   |none=>rfl
   |some p=>
    rcases g.fr id gg p hp with q|q|q
    ·rw [s.new id gg (by omega) h2] at q;cases q
    ·omega
    ·rw [hh] at q;cases q
  ·cases hp:h' id with
   |none=>rfl
   |some p=>
    rcases g.dom id (by rw [hp];rfl) with q|q
    ·rw [hh] at q;cases q
    ·omega
 exact⟨g.Bi,g.k,g.nc.B3 hnone,g.ext,g.mu,g.tw,g.fr,g.dom,g.nx⟩
end
def cnt (L:Nat->Bool):Nat->Nat
 |0=>0
 |k+1=>cnt L k+(if L k then 0 else 1)
theorem AW {L L':Nat->Bool} {j:Nat} (hLj:L j=false) (hj1:L' j=true) (hj2:∀k,k≠j->L' k=L k):∀n,cnt L' n+(if j < n then 1 else 0)=cnt L n
 |0=>rfl
 |n+1=>by
  have ih:=AW hLj hj1 hj2 n;simp only [cnt];by_cases hn:n=j
  ·subst hn;rw [hLj,hj1];simp at ih ⊢;omega
  ·rw [hj2 n hn];by_cases h1:j < n
   ·rw [if_pos h1] at ih;rw [if_pos (show j < n+1 by omega)];omega
   ·rw [if_neg h1] at ih;rw [if_neg (show ¬j < n+1 by omega)];omega
theorem yc {L:Nat->Bool}:∀n,cnt L n=0->∀k,k < n->L k=true
 |0,_,k,hk=>by omega
 |n+1,h,k,hk=>by
  simp only [cnt] at h;rcases Nat.lt_or_ge k n with h1|h1
  ·exact yc n (by omega) k h1
  ·obtain rfl:k=n:=by omega
   cases hl:L k with
   |true=>rfl
   |false=>rw [hl] at h;simp at h
theorem Em (L:Nat->Bool):∀n,cnt L n<=n
 |0=>Qy _
 |n+1=>by have:=Em L n;simp only [cnt];split<;>omega
section
variable {P:Program} {ops:Array Oper} {nt:Nat} {al:List av} {ahead:List (List Nat)} {pairs:List (Nat×Nat)} {st st':St} {S:Nat->St} {R:Nat->Rec} {V:Nat->AV} {φ0:fm} {K0:Nat->Prop} {w0:World}
def Inv (φ0:fm) (K0:Nat->Prop) (w0:World) (nt:Nat) (al:List av) (st st':St) (S:Nat->St) (R:Nat->Rec) (L:Nat->Bool) (a:Act) (w:World):Prop:=
 ∃φ K,cq 0 φ0 K0 st.H.get st.nx w0 φ K (hS st S R al.length L) st'.nx w/\(∀k,k < al.length->L k=false->∀id,EW R k id->(∀g,φ id g=none)/\hS st S R al.length L id=none)/\qf φ K w (eS st S al L) a/\a.tmps.size=nt/\a.defers=[]
theorem n_.one (hr:n_ P ops nt al ahead pairs st st' S R V) {L L':Nat->Bool} (hL:∀i,L i=true->B1 ops L i) {j:Nat} (hj:j < al.length) (hLj:L j=false) (qja:B1 ops L j) (hj1:L' j=true) (hj2:∀k,k≠j->L' k=L k)
  {a:Act} {w:World} (hI:Inv φ0 K0 w0 nt al st st' S R L a w) {o:Oper} (ho:ops[j]?=some o) (next:Act->World->Prop) (Q:Exit->Act->World->Prop) (hn:∀a' w',Inv φ0 K0 w0 nt al st st' S R L' a' w'->next a' w') :
  if Region.wanted o (yielded ops a.tmps) then o.wp P a w next Q else next (a.put o.dst undef) w:=by
 obtain⟨φ,K,g,hnew,qxp,hs,hd⟩:=hI;have hao:al[j]?=some al[j]:=PU hj;obtain⟨_,_,e3,e4⟩:=hr.yW j hj;have qzf:∀id,(S j).nx<=id->id < (S (j+1)).nx->EW R j id:=fun id h1 h2=>⟨by rw [e3];exact h1,by rw [e4];exact h2⟩
 obtain⟨ag1,ag2⟩:=hr.Ki hL hj hLj qja;obtain⟨pt1,pt2⟩:=hr.put hL hj hLj qja hj1 hj2;refine hr.step j o _ ho hao φ K (hS st S R al.length L) w a (eS st S al L) (g.nc.B3 (fun id h1 h2=>hnew j hj hLj id (qzf id h1 h2))) ag1 qxp (ag2 _ hao) hs hd next Q (fun a' w' hp=>hn a' w' ?_);obtain⟨φ',K',g',qx4,hs',hd'⟩:=hp;rw [←pt1] at g';rw [←pt2 _ hao] at qx4;have hb2:(S (j+1)).nx<=st'.nx:=by rw [←hr.last];exact hr.mono _ _ hj (Qy _)
 have g0:=g'.zero (a:=st.nx) (b:=st'.nx) (hr.base j (Nat.le_of_lt hj)) hb2;refine⟨φ',K',g.two g0,fun k hk hLk id hid=>?_,qx4,hs',hd'⟩;have hkj:k≠j:=by rintro rfl;rw [hj1] at hLk;cases hLk
 rw [hj2 k hkj] at hLk;obtain⟨n1,n2⟩:=hnew k hk hLk id hid;refine⟨fun gg=>?_,?_⟩
 ·cases hp:φ' id gg with
  |none=>rfl
  |some p=>
   rcases g'.fr id gg p hp with q|q|q
   ·rw [n1] at q;cases q
   ·exact absurd (hr.nw hk hj hid (qzf id q.1 q.2)) hkj
   ·rw [n2] at q;cases q
 ·cases hp:hS st S R al.length L' id with
  |none=>rfl
  |some p=>
   rcases g'.dom id (by rw [hp];rfl) with q|q
   ·rw [n2] at q;cases q
   ·exact absurd (hr.nw hk hj hid (qzf id q.1 q.2)) hkj
theorem mem_ready {listed:Array Bool} {i:Nat} (hs:listed.size=ops.size):i∈Region.ready .any ops listed↔i < ops.size/\listed.getD i false=false/\B1 ops (fun k=>listed.getD k false) i:=by
 simp only [Region.ready,List.mem_filter,List.mem_range,Qk,Qm];constructor
 ·rintro⟨h1,h2,h3⟩;have ho:ops[i]?=some ops[i]:=Array.getElem?_eq_getElem h1;rw [ho] at h3;simp only [Option.map_some,Option.getD_some] at h3;rw [Array.all_eq_true_iff_forall_mem] at h3;refine⟨h1,?_,fun o e ho' he hb=>?_⟩
  ·rw [Array.getD_eq_getD_getElem?,Array.getElem?_eq_getElem (by omega)] at h2 ⊢;exact h2
  ·rw [ho] at ho';cases ho';have:=h3 e he;rw [hb] at this;simpa using this
 ·rintro⟨h1,h2,h3⟩;have ho:ops[i]?=some ops[i]:=Array.getElem?_eq_getElem h1;refine⟨h1,?_,?_⟩
  ·rw [Array.getD_eq_getD_getElem?,Array.getElem?_eq_getElem (by omega)] at h2 ⊢;exact h2
  ·rw [ho];simp only [Option.map_some,Option.getD_some];rw [Array.all_eq_true_iff_forall_mem];intro e he;cases hb:Region.binds .any e with
   |false=>rfl
   |true=>simpa using h3 _ e ho he hb
theorem n_.any (hr:n_ P ops nt al ahead pairs st st' S R V) {Q:Exit->Act->World->Prop} (hQ:∀a w,(∃φ K,cq 0 φ0 K0 st.H.get st.nx w0 φ K st'.H.get st'.nx w/\qf φ K w (fun t=>ev st'.env (.t t)) a/\a.tmps.size=nt/\a.defers=[])->Q .normal a w) :
  ∀(fuel:Nat) (listed:Array Bool) (a:Act) (w:World),listed.size=ops.size->(∀i,listed.getD i false=true->B1 ops (fun k=>listed.getD k false) i)->cnt (fun k=>listed.getD k false) al.length<=fuel->Inv φ0 K0 w0 nt al st st' S R (fun k=>listed.getD k false) a w->wpAny P .any ops Q fuel listed a w:=by
 have hlen:=hr.len;have fin:∀(L:Nat->Bool) (a:Act) (w:World),(∀k,k < al.length->L k=true)->Inv φ0 K0 w0 nt al st st' S R L a w->Q .normal a w:=by intro L a w hall hI;obtain⟨φ,K,g,_,qxp,hs,hd⟩:=hI;obtain⟨e1,e2⟩:=hr.EF hall;rw [e1] at g;rw [e2] at qxp;exact hQ a w ⟨φ,K,g,qxp,hs,hd⟩
 intro fuel
 induction fuel with
 |zero=>intro listed a w hsz hcl hc hI;have hall:=yc al.length (Nat.le_zero.1 hc);refine⟨?_,fin _ a w hall hI⟩;rw [List.eq_nil_iff_forall_not_mem];intro i hi;obtain⟨h1,h2,_⟩:=(mem_ready hsz).1 hi;have:=hall i (by omega);rw [h2] at this;cases this
 |succ fuel ih=>
  intro listed a w hsz hcl hc hI;refine⟨fun qz0=>fin _ a w ?_ hI,fun i hi=>?_⟩
  ·intro k
   induction k using Nat.strongRecOn with
   |_ k ihk=>
    intro hk;cases hl:listed.getD k false with
    |true=>rfl
    |false=>
     exfalso;have:k∈Region.ready .any ops listed:=(mem_ready hsz).2 ⟨by omega,hl,fun o e ho he hb=>by have hlt:=hr.FW k o e ho he hb;exact ihk e.on hlt (by omega)⟩
     rw [qz0] at this;cases this
  ·obtain⟨h1,h2,h3⟩:=(mem_ready hsz).1 hi;have ho:ops[i]?=some ops[i]:=Array.getElem?_eq_getElem h1;have qq9:∀k,(listed.setIfInBounds i true).getD k false=if k=i then true else listed.getD k false:=by
    intro k;simp only [Array.getD_eq_getD_getElem?,Array.getElem?_setIfInBounds];by_cases hk:k=i
    ·subst hk;rw [if_pos rfl,if_pos (by omega),if_pos rfl];rfl
    ·rw [if_neg (fun h=>hk h.symm),if_neg hk]
   have hj1:(listed.setIfInBounds i true).getD i false=true:=by rw [qq9,if_pos rfl]
   have hj2:∀k,k≠i->(listed.setIfInBounds i true).getD k false=listed.getD k false:=fun k hk=>by rw [qq9,if_neg hk]
   have hmono:∀k,B1 ops (fun k=>listed.getD k false) k->B1 ops (fun k=>(listed.setIfInBounds i true).getD k false) k:=by
    intro k hf o e ho he hb;have:=hf o e ho he hb;simp only at this ⊢;rw [qq9];split
    ·rfl
    ·exact this
   have hone:=hr.one (L:=fun k=>listed.getD k false) (L':=fun k=>(listed.setIfInBounds i true).getD k false) hcl (by omega) h2 h3 hj1 hj2 hI ho (wpAny P .any ops Q fuel (listed.setIfInBounds i true)) Q (fun a' w' hI'=>by
    refine ih _ a' w' (by simpa using hsz) (fun k hk=>?_) ?_ hI'
    ·rw [qq9] at hk;split at hk
     ·rename_i hki;subst hki;exact hmono _ h3
     ·exact hmono _ (hcl k hk)
    ·have:=AW (L:=fun k=>listed.getD k false) (L':=fun k=>(listed.setIfInBounds i true).getD k false) h2 hj1 hj2 al.length;rw [if_pos (by omega)] at this;omega)
   unfold wpOp;rw [ho];simp only;split
   ·rename_i hw;rw [if_pos hw] at hone;exact .inl hone
   ·rename_i hw;rw [if_neg hw] at hone;exact hone
theorem mO {α ι:Type} (T:Nat->ι->Prop) (x0:ι->α) (y:Nat->ι->α) (L:Nat->Bool) (hL:∀k,L k=false):∀n,eZ T x0 y L n=x0
 |0=>rfl
 |n+1=>by funext i;simp only [eZ];rw [if_neg (by rw [hL n];simp),mO T x0 y L hL n]
theorem FY {top:Nat} {cf:eI} (hcf:j7 P cf) (hup:lY cf) (tf:P.follows .mixedOrders=true) {id:Nat} (hm:Am P ops al ahead pairs=true) (hd:b_ cf nt al ahead pairs st=some st') (ht:st'.nx<=top)
  {φ:fm} {K:Nat->Prop} {w:World} {a:Act} (s:bM top φ K st.H.get st.nx w) (he:lZ φ K w st.env a) (hs:a.tmps.size=nt) (hdf:a.defers=[]) {Q:Exit->Act->World->Prop} (hQ:∀a' w',Post top φ K st w nt st' a' w'->Q .normal a' w') :
  (Code.region id ops true).wp P Q a w:=by
 obtain⟨S,R,V,hr⟩:=G7 hcf hup hm hd;refine wp_region_any tf ?_;have gd:=uF s;have hfalse:∀k,(Array.replicate ops.size false).getD k false=false:=by intro k;rw [Array.getD_eq_getD_getElem?,Array.getElem?_replicate];split<;>rfl
 have qwU:st.nx<=st'.nx:=by rw [←hr.last];exact hr.base _ (Qy _)
 have h0:hS st S R al.length (fun k=>(Array.replicate ops.size false).getD k false)=st.H.get:=mO _ _ _ _ hfalse _;have e0:eS st S al (fun k=>(Array.replicate ops.size false).getD k false)=fun t=>ev st.env (.t t):=mO _ _ _ _ hfalse _
 refine hr.any (φ0:=φ) (K0:=K) (w0:=w.drew) (fun a' w' hp=>hQ a' w' ?_) ops.size _ a w.drew (by simp) (fun i hi=>by rw [hfalse] at hi;cases hi) (by rw [hr.len];exact Em _ _) ?_
 ·obtain⟨φ',K',g,qxp,hs',hd'⟩:=hp;exact⟨φ',K',gd.trans (cq.back gd.nc g),qxp,hs',hd'⟩
 ·refine⟨φ,K,?_,fun k hk _ idd hid=>?_,?_,hs,hdf⟩
  ·rw [h0];exact(cq.refl gd.nc).zero (Qy _) qwU
  ·rw [h0];have hge:=hr.vo hk hid;obtain⟨_,_,_,e4⟩:=hr.yW k hk;have hlt:idd < top:=by have h1:=hid.2;rw [e4] at h1;have h2:=hr.mono al.length (k+1) hk (Qy _);rw [hr.last] at h2;omega
   refine⟨fun g=>s.new idd g hge hlt,?_⟩;cases hh:st.H.get idd with
   |none=>rfl
   |some ob=>exact absurd ⟨hge,hlt⟩ (s.low idd ob hh).1
  ·rw [e0];exact he.keep s gd
end
end Go.Ax
