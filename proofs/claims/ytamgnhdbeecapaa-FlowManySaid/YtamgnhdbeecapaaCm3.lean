/- Part 3 of the proof: Ax7, Ax8, Ax9, Ax10, Ax11, Ax12, Ax13, Ax14, Ax15, Ax16, Ax17, Ax18, Ax19, Ax20, Ax21, Ax22, Ax23. -/
import Derived.Test.YtamgnhdbeecapaaCm2
import Derived.ChangeKeysEq
set_option linter.unusedSimpArgs false
set_option linter.unusedVariables false
namespace Go.Ax
theorem Fk (a b:List AV):Dl [] a b=match a with|[]=>(match b with|[]=>some true|_::_=>none)|_::_=>none:=rfl
theorem uj (l:kV) (ls:List kV) (a b:List AV):Dl (l::ls) a b=match a with
 |[]=>none
 |x::xs=>match b with
  |[]=>none
  |y::ys=>match Iv l x y with
   |none=>none
   |some u=>match Dl ls xs ys with
    |none=>none
    |some c=>some (u&&c):=rfl
theorem yS (l1 l2:List kV):∀(a b:List AV) (r:Bool),Dl (l1++l2) a b=some r->∃r1 r2,Dl l1 (a.take l1.length) (b.take l1.length)=some r1/\Dl l2 (a.drop l1.length) (b.drop l1.length)=some r2/\r=(r1&&r2):=by
 induction l1 with
 |nil=>intro a b r h;exact⟨true,r,by simp [Fk],by simpa using h,by simp⟩
 |cons l ls ih=>
  intro a b r h;rw [List.cons_append,uj] at h;cases a with
  |nil=>cases h
  |cons x xs=>
   cases b with
   |nil=>cases h
   |cons y ys=>
    simp only at h;cases hu:Iv l x y with
    |none=>rw [hu] at h;cases h
    |some u=>
     rw [hu] at h;simp only at h;cases hc:Dl (ls++l2) xs ys with
     |none=>rw [hc] at h;cases h
     |some c=>rw [hc] at h;cases h;obtain⟨r1,r2,h1,h2,rfl⟩:=ih xs ys c hc;refine⟨u&&r1,r2,?_,by simpa using h2,by rw [Bool.and_assoc]⟩;simp only [UD,List.take_succ_cons,uj,hu,h1]
def rS (P:Program) (rec:TypeId->Option (List kV)):List Field->Nat->Option (List kV)
 |[],_=>some []
 |f::fs,k=>bif decide (f.name≠"_")&&Nat.beq f.offset k then match rec f.type with
  |none=>none
  |some ls=>match rS P rec fs (k+ls.length) with
   |none=>none
   |some rest=>some (ls++rest)
  else none
def jr (P:Program):Nat->TypeId->Option (List kV)
 |0,_=>none
 |d+1,t=>match P.underlying t with
  |some (.int _)=>some [.int]
  |some .bool=>some [.bool]
  |some .string=>some [.str]
  |some (.struct fs)=>match rS P (jr P d) fs.toList 0 with
   |none=>none
   |some ls=>bif lR P t ls.length&&!(P.stoodInHeld t) then some ls else none
  |some (.array n e)=>match jr P d e with
   |none=>none
   |some ls=>bif lR P e ls.length&&lR P t (n*ls.length) then some (List.replicate n ls).flatten else none
  |_=>none
section
variable {top:Nat} {P:Program} {φ:gW} {K:Nat->Prop} {h:bz} {nx:Nat} {w:World} {ρ:aR->AV} {ρc:Operand->Value} {o:Oper}
def gD (φ:gW) (K:Nat->Prop) (w:World) (a:List AV) (xs:Array Value) (off:Nat):Prop:=∀(j:Nat) (x:AV),a[j]?=some x->∃v,xs[off+j]?=some v/\ax φ K w x v
theorem gD.take {a:List AV} {xs:Array Value} {off n:Nat} (hc:gD φ K w a xs off):gD φ K w (a.take n) xs off:=fun j x hx=>hc j x (by
 rw [Uu] at hx;split at hx
 ·exact hx
 ·cases hx)
theorem gD.drop {a:List AV} {xs:Array Value} {off n:Nat} (hc:gD φ K w a xs off):gD φ K w (a.drop n) xs (off+n):=fun j x hx=>by obtain⟨v,h1,h2⟩:=hc (n+j) x (by rwa [Uv] at hx);exact⟨v,by rw [←h1,Nat.add_assoc],h2⟩
theorem ug {l:kV} {x y:AV} {X Y:Value} {r:Bool} (he:Iv l x y=some r) (hx:ax φ K w x X) (hy:ax φ K w y Y) :
  (l=.int/\∃k a b,X=.int k a/\Y=.int k b/\r=(a == b))\/(l=.bool/\∃a b,X=.bool a/\Y=.bool b/\r=(a == b))\/(l=.str/\∃a b,X=.string a/\Y=.string b/\r=(a == b)):=by
 cases l<;>unfold Iv at he<;>simp only at he
 ·split at he
  ·split at he
   ·rw [cond_eq_ite] at he;split at he
    ·rename_i k n _ k' m hk;cases he;have:=vN hk;subst this;have h1:=eo hx;have h2:=eo hy;exact .inl ⟨rfl,k,n,m,h1,h2,by rw [sy,Bool.beq_eq_decide_eq]⟩
    ·cases he
   ·cases he
  ·cases he
 ·split at he
  ·split at he
   ·cases he;exact .inr (.inl ⟨rfl,_,_,fc hx,fc hy,rfl⟩)
   ·cases he
  ·cases he
 ·split at he
  ·split at he
   ·cases he;exact .inr (.inr ⟨rfl,_,_,ld hx,ld hy,rfl⟩)
   ·cases he
  ·cases he
def Na (P:Program) (φ:gW) (K:Nat->Prop) (w:World) (d:Nat) (t:TypeId) (ls:List kV):Prop:=
 ∀(D:Nat) (xs ys:Array Value) (ox oy:Nat) (a b:List AV) (r:Bool),gD φ K w a xs ox->gD φ K w b ys oy->Dl ls a b=some r->
  ∃VX VY,(part t xs ox).run P w=.ok VX w/\(part t ys oy).run P w=.ok VY w/\(Op.equalIn (D+d) t VX VY).run P w=.ok r w
theorem xm {ls:List kV}:∀{a b:List AV} {r:Bool},Dl ls a b=some r->a.length=ls.length/\b.length=ls.length:=by
 induction ls with
 |nil=>
  intro a b r h;cases a with
  |nil=>cases b with
   |nil=>exact⟨rfl,rfl⟩
   |cons y ys=>cases h
  |cons x xs=>cases h
 |cons l ls ih=>
  intro a b r h;rw [uj] at h;cases a with
  |nil=>cases h
  |cons x xs=>cases b with
   |nil=>cases h
   |cons y ys=>
    simp only at h;cases hu:Iv l x y with
    |none=>rw [hu] at h;cases h
    |some u=>
     rw [hu] at h;simp only at h;cases hc:Dl ls xs ys with
     |none=>rw [hc] at h;cases h
     |some c=>obtain⟨h1,h2⟩:=ih hc;simp [h1,h2]
theorem Bz {d:Nat} {rec:TypeId->Option (List kV)} (IH:∀t ls,rec t=some ls->Na P φ K w d t ls) (D:Nat) (xs ys:Array Value):∀(fs:List Field) (k:Nat) (ls:List kV) (a b:List AV) (r:Bool),
  rS P rec fs k=some ls->gD φ K w a xs k->gD φ K w b ys k->Dl ls a b=some r->(Op.eqFields (D+d) xs ys fs).run P w=.ok r w:=by
 intro fs
 induction fs with
 |nil=>
  intro k ls a b r hl ha hb he;cases hl;cases a with
  |nil=>cases b with
   |nil=>cases he;rfl
   |cons y ys=>cases he
  |cons x xs=>cases he
 |cons f fs ih=>
  intro k ls a b r hl ha hb he;simp only [rS,cond_eq_ite,UN,UT,UQ] at hl;split at hl
  ·rename_i hc;obtain⟨hname,rfl⟩:=hc;cases hr1:rec f.type with
   |none=>rw [hr1] at hl;cases hl
   |some l1=>
    rw [hr1] at hl;simp only at hl;cases hr2:rS P rec fs (f.offset+l1.length) with
    |none=>rw [hr2] at hl;cases hl
    |some l2=>
     rw [hr2] at hl;cases hl;obtain⟨r1,r2,e1,e2,rfl⟩:=yS l1 l2 a b r he;obtain⟨VX,VY,p1,p2,p3⟩:=IH _ _ hr1 D xs ys f.offset f.offset _ _ r1 ha.take hb.take e1;have qxb:=ih (f.offset+l1.length) l2 _ _ r2 hr2 ha.drop hb.drop e2;simp only [Op.eqFields,ne_eq,hname,not_false_eq_true,if_true,Sem.run_bind,p1,p2,p3,Result.andThen_ok,Sem.run_ite];cases r1
     ·simp
     ·simpa using qxb
  ·cases hl
theorem CY {d:Nat} {e:TypeId} {l1:List kV} (IH:Na P φ K w d e l1) (hs:P.cellsOf e=l1.length) (D:Nat) (xs ys:Array Value):∀(n i:Nat) (a b:List AV) (r:Bool),
  gD φ K w a xs (i*l1.length)->gD φ K w b ys (i*l1.length)->Dl (List.replicate n l1).flatten a b=some r->(Op.eqItems (D+d) e (P.cellsOf e) xs ys (List.range' i n)).run P w=.ok r w:=by
 intro n
 induction n with
 |zero=>
  intro i a b r ha hb he;simp only [List.replicate_zero,List.flatten_nil] at he;cases a with
  |nil=>cases b with
   |nil=>cases he;rfl
   |cons y ys=>cases he
  |cons x xs=>cases he
 |succ n ih=>
  intro i a b r ha hb he;rw [List.replicate_succ,List.flatten_cons] at he;obtain⟨r1,r2,e1,e2,rfl⟩:=yS l1 _ a b r he;obtain⟨VX,VY,p1,p2,p3⟩:=IH D xs ys _ _ _ _ r1 ha.take hb.take e1;have qxb:=ih (i+1) _ _ r2 (by rw [Nat.succ_mul];exact ha.drop) (by rw [Nat.succ_mul];exact hb.drop) e2;rw [List.range'_succ];rw [hs] at qxb ⊢;simp only [Op.eqItems,Sem.run_bind,p1,p2,p3,Result.andThen_ok,Sem.run_ite];cases r1
  ·simp
  ·simpa using qxb
theorem Bx:∀(d:Nat) (t:TypeId) (ls:List kV),jr P d t=some ls->Na P φ K w d t ls
 |0,_,_,hl=>by cases hl
 |d+1,t,ls,hl=>by
  intro D xs ys ox oy a b r ha hb he;simp only [jr] at hl;have FI:∀l:kV,ls=[l]->(∀dd,P.underlying t=some dd->nR dd=false)->(∃dd,P.underlying t=some dd)->∃x y,a=[x]/\b=[y]/\Iv l x y=some r/\∃X Y,(part t xs ox).run P w=.ok X w/\(part t ys oy).run P w=.ok Y w/\ax φ K w x X/\ax φ K w y Y:=by
   rintro l rfl hag ⟨dd,hdd⟩;obtain⟨h1,h2⟩:=xm he;obtain⟨x,rfl⟩:=List.length_eq_one_iff.1 h1;obtain⟨y,rfl⟩:=List.length_eq_one_iff.1 h2;refine⟨x,y,rfl,rfl,?_,?_⟩
   ·rw [uj] at he;simp only [Fk] at he;cases hu:Iv l x y with
    |none=>rw [hu] at he;cases he
    |some u=>rw [hu] at he;simp at he;rw [he]
   ·obtain⟨X,hX1,hX2⟩:=ha 0 x rfl;obtain⟨Y,hY1,hY2⟩:=hb 0 y rfl;simp only [Nat.add_zero] at hX1 hY1;have:=hag dd hdd;exact⟨X,Y,by simp [part,ew hdd,this,hX1],by simp [part,ew hdd,this,hY1],hX2,hY2⟩
  cases hu:P.underlying t with
  |none=>rw [hu] at hl;cases hl
  |some dd=>
   rw [hu] at hl;cases dd<;>simp only at hl<;>try (cases hl;done)
   case bool=>
    cases hl;obtain⟨x,y,rfl,rfl,e1,X,Y,p1,p2,r1,r2⟩:=FI .bool rfl (fun dd h=>by rw [hu] at h;cases h;rfl) ⟨_,hu⟩;rcases ug e1 r1 r2 with ⟨hh,_⟩|⟨_,a,b,rfl,rfl,rfl⟩|⟨hh,_⟩
    ·cases hh
    ·exact⟨_,_,p1,p2,run_equalIn_bool' w (D+d) t a b hu⟩
    ·cases hh
   case int kk=>
    cases hl;obtain⟨x,y,rfl,rfl,e1,X,Y,p1,p2,r1,r2⟩:=FI .int rfl (fun dd h=>by rw [hu] at h;cases h;rfl) ⟨_,hu⟩;rcases ug e1 r1 r2 with ⟨_,k,a,b,rfl,rfl,rfl⟩|⟨hh,_⟩|⟨hh,_⟩
    ·exact⟨_,_,p1,p2,run_equalIn_int w (D+d) t k kk a b hu⟩
    ·cases hh
    ·cases hh
   case string=>
    cases hl;obtain⟨x,y,rfl,rfl,e1,X,Y,p1,p2,r1,r2⟩:=FI .str rfl (fun dd h=>by rw [hu] at h;cases h;rfl) ⟨_,hu⟩;rcases ug e1 r1 r2 with ⟨hh,_⟩|⟨hh,_⟩|⟨_,a,b,rfl,rfl,rfl⟩
    ·cases hh
    ·cases hh
    ·refine⟨_,_,p1,p2,?_⟩;rw [show D+(d+1)=(D+d)+1 from rfl,run_equalIn_string w (D+d) t a b hu,beq_toListBytes]
   case struct fs=>
    cases hf:rS P (jr P d) fs.toList 0 with
    |none=>rw [hf] at hl;cases hl
    |some l1=>
     rw [hf] at hl;simp only [cond_eq_ite,UN,UP] at hl;split at hl
     ·rename_i hc;cases hl;obtain⟨hla,hlb⟩:=xm he;have hsz:=fk hc.1 w;refine⟨.agg (xs.extract ox (ox+ls.length)),.agg (ys.extract oy (oy+ls.length)),by simp [part,ew hu,nR,hsz],by simp [part,ew hu,nR,hsz],?_⟩;have hfo:P.fieldsOf t=fs:=by simp [Program.fieldsOf,hu]
      rw [show D+(d+1)=(D+d)+1 from rfl,run_equalIn_struct w (D+d) t _ _ (by rw [hfo];exact hu) hc.2,hfo];refine Bz (fun t ls h=>Bx d t ls h) D _ _ fs.toList 0 ls a b r hf (fun j x hx=>?_) (fun j x hx=>?_) he
      ·obtain⟨v,h1,h2⟩:=ha j x hx;have hj:j < ls.length:=by
        rcases Nat.lt_or_ge j a.length with h'|h'
        ·omega
        ·rw [Ut h'] at hx;cases hx
       exact⟨v,by have hlt:=(Array.getElem?_eq_some_iff.1 h1).1;rw [Array.getElem?_extract,if_pos (by omega),←h1];congr 1;omega,h2⟩
      ·obtain⟨v,h1,h2⟩:=hb j x hx;have hj:j < ls.length:=by
        rcases Nat.lt_or_ge j b.length with h'|h'
        ·omega
        ·rw [Ut h'] at hx;cases hx
       exact⟨v,by have hlt:=(Array.getElem?_eq_some_iff.1 h1).1;rw [Array.getElem?_extract,if_pos (by omega),←h1];congr 1;omega,h2⟩
     ·cases hl
   case array n e=>
    cases hf:jr P d e with
    |none=>rw [hf] at hl;cases hl
    |some l1=>
     rw [hf] at hl;simp only [cond_eq_ite,UN] at hl;split at hl
     ·rename_i hc;cases hl;obtain⟨hla,hlb⟩:=xm he;have hsz:=fk hc.2 w;have hlen:(List.replicate n l1).flatten.length=n*l1.length:=by simp
      rw [hlen] at hla hlb;obtain⟨i,hi,hin⟩:=dY hc.1;rw [UQ] at hin;have hce:P.cellsOf e=l1.length:=by simp [Program.cellsOf,hi,hin]
      refine⟨.agg (xs.extract ox (ox+n*l1.length)),.agg (ys.extract oy (oy+n*l1.length)),by simp [part,ew hu,nR,hsz],by simp [part,ew hu,nR,hsz],?_⟩;rw [show D+(d+1)=(D+d)+1 from rfl,run_equalIn_array w (D+d) _ _ hu hi,List.range_eq_range'];refine CY (Bx d e l1 hf) hce D _ _ n 0 a b r (fun j x hx=>?_) (fun j x hx=>?_) he
      ·obtain⟨v,h1,h2⟩:=ha j x hx;have hj:j < n*l1.length:=by
        rcases Nat.lt_or_ge j a.length with h'|h'
        ·omega
        ·rw [Ut h'] at hx;cases hx
       exact⟨v,by have hlt:=(Array.getElem?_eq_some_iff.1 h1).1;rw [Array.getElem?_extract,if_pos (by omega),←h1];congr 1;omega,h2⟩
      ·obtain⟨v,h1,h2⟩:=hb j x hx;have hj:j < n*l1.length:=by
        rcases Nat.lt_or_ge j b.length with h'|h'
        ·omega
        ·rw [Ut h'] at hx;cases hx
       exact⟨v,by have hlt:=(Array.getElem?_eq_some_iff.1 h1).1;rw [Array.getElem?_extract,if_pos (by omega),←h1];congr 1;omega,h2⟩
     ·cases hl
theorem Dq {d:Nat} {t:TypeId} {ls:List kV} (hl:jr P d t=some ls) (hag:ga P t nR=true):xy P t (some ls.length)=true:=by
 simp only [xy,hag,Bool.true_and];obtain⟨dd,hu,ha⟩:=bP hag;cases d with
 |zero=>cases hl
 |succ d=>
  simp only [jr,hu] at hl;cases dd<;>simp only at hl<;>try (cases hl;done)
  case struct fs=>
   cases hf:rS P (jr P d) fs.toList 0 with
   |none=>rw [hf] at hl;cases hl
   |some l1=>
    rw [hf] at hl;simp only [cond_eq_ite,UN] at hl;split at hl
    ·rename_i hc;cases hl;exact hc.1
    ·cases hl
  case array n e=>
   cases hf:jr P d e with
   |none=>rw [hf] at hl;cases hl
   |some l1=>
    rw [hf] at hl;simp only [cond_eq_ite,UN] at hl;split at hl
    ·rename_i hc;cases hl;simpa using hc.2
    ·cases hl
  all_goals cases ha
theorem F_ {d:Nat} {t:TypeId} {ls:List kV} (hl:jr P d t=some ls) (hag:ga P t nR=true) (D:Nat) {a b:List AV} {X Y:Value} {r:Bool} (hx:ax φ K w (.agg a) X) (hy:ax φ K w (.agg b) Y) (he:Dl ls a b=some r) :
  (∃xs ys,X=.agg xs/\Y=.agg ys)/\(Op.equalIn (D+d) t X Y).run P w=.ok r w:=by
 obtain⟨xs,rfl,hlx,hrx⟩:=lg hx;obtain⟨ys,rfl,hly,hry⟩:=lg hy;obtain⟨hla,hlb⟩:=xm he;refine⟨⟨_,_,rfl,rfl⟩,?_⟩;obtain⟨VX,VY,p1,p2,p3⟩:=Bx d t ls hl D xs ys 0 0 a b r (fun j x hx=>by simpa using (hrx j x hx).2) (fun j x hx=>by simpa using (hry j x hx).2) he;have hv:=Dq hl hag;simp only [xy,UN] at hv;obtain⟨dd,hu,ha⟩:=bP hag;have hs:=fk hv.2 w;simp only [part,Sem.run_bind,ew hu,ha,Result.andThen_ok,if_true,hs,Sem.run_pure,Nat.zero_add] at p1 p2;cases p1;cases p2;rw [←hla,hlx] at p3;rw [←hlx,hla,←hlb,hly] at p3;have e1:xs.extract 0 ys.size=xs:=by rw [show ys.size=xs.size by omega];simp
 have e2:ys.extract 0 ys.size=ys:=by simp
 rwa [e1,e2] at p3
def FV (P:Program) (t:TypeId):Dn->Bool
 |.one .bool=>ga P t fun d=>match d with|.bool=>true|_=>false
 |.one .int=>ga P t fun d=>match d with|.int _=>true|_=>false
 |.one .str=>GF P t
 |.slice=>ga P t fun d=>match d with|.slice _=>true|_=>false
 |.agg ls=>ga P t nR&&(match jr P 100 t with|some l=>uh l ls|none=>false)&&!(P.eqGuardType P.depth t)
where
 uh:List kV->List kV->Bool
 |[],[]=>true
 |.int::l,.int::m=>uh l m
 |.bool::l,.bool::m=>uh l m
 |.str::l,.str::m=>uh l m
 |_,_=>false
theorem nq:∀{l m:List kV},FV.uh l m=true->l=m
 |[],[],_=>rfl
 |.int::l,.int::m,h=>by rw [nq (l:=l) (m:=m) h]
 |.bool::l,.bool::m,h=>by rw [nq (l:=l) (m:=m) h]
 |.str::l,.str::m,h=>by rw [nq (l:=l) (m:=m) h]
theorem B_ (d:Nat) (t e:TypeId) (hd:P.underlying t=some (.slice e)):(Op.equalIn (d+1) t (.slice none 0 0) (.slice none 0 0)).run P w=.ok true w:=by simp [Op.equalIn,run_underlying hd]
theorem B9 (d:Nat) (t e:TypeId) (hd:P.underlying t=some (.slice e)) (ad:Addr) (n c:Nat):(Op.equalIn (d+1) t (.slice none 0 0) (.slice (some ad) n c)).run P w=.ok false w:=by simp [Op.equalIn,run_underlying hd]
theorem B8 (d:Nat) (t e:TypeId) (hd:P.underlying t=some (.slice e)) (ad:Addr) (n c:Nat):(Op.equalIn (d+1) t (.slice (some ad) n c) (.slice none 0 0)).run P w=.ok false w:=by simp [Op.equalIn,run_underlying hd]
theorem Iu (D:Nat) {t:TypeId} {k:Dn} (hm:FV P t k=true) {x y:AV} {X Y:Value} {r:Bool} (he:Jb k x y=some r) (hx:ax φ K w x X) (hy:ax φ K w y Y) :
  (Op.equalIn (D+99+1) t X Y).run P w=.ok r w:=by
 cases k with
 |one l=>
  rcases ug he hx hy with ⟨rfl,k,a,b,rfl,rfl,rfl⟩|⟨rfl,a,b,rfl,rfl,rfl⟩|⟨rfl,a,b,rfl,rfl,rfl⟩
  ·obtain⟨d,hd,h1⟩:=bP hm;split at h1
   ·exact run_equalIn_int w (D+99) t _ _ a b hd
   ·cases h1
  ·obtain⟨d,hd,h1⟩:=bP hm;split at h1
   ·exact run_equalIn_bool' w (D+99) t a b hd
   ·cases h1
  ·rw [run_equalIn_string w (D+99) t a b (qb hm),beq_toListBytes]
 |slice=>
  obtain⟨d,hd,h1⟩:=bP hm;split at h1
  ·rename_i e;have hnn:=B_ (P:=P) (w:=w) (D+99) t e hd;have hns:=B9 (P:=P) (w:=w) (D+99) t e hd;have hsn:=B8 (P:=P) (w:=w) (D+99) t e hd;unfold Jb at he;simp only at he;split at he
   ·have h1:=dw hx;split at he
    ·have h2:=dw hy;cases he;subst h1 h2;exact hnn
    ·obtain⟨ad,c',h2,_⟩:=jf hy;cases he;subst h1 h2;exact hns _ _ _
    ·obtain⟨b,base,ad,c',h2,_⟩:=fu hy;cases he;subst h1 h2;exact hns _ _ _
    ·cases he
   ·obtain⟨ad,c',h1,_⟩:=jf hx;split at he
    ·have h2:=dw hy;cases he;subst h1 h2;exact hsn _ _ _
    ·cases he
   ·obtain⟨b,base,ad,c',h1,_⟩:=fu hx;split at he
    ·have h2:=dw hy;cases he;subst h1 h2;exact hsn _ _ _
    ·cases he
   ·cases he
  ·cases h1
 |agg ls=>
  simp only [FV,UN] at hm;obtain⟨⟨h1,h2⟩,h3⟩:=hm;split at h2
  ·rename_i l hl;have:=nq h2;subst this;unfold Jb at he;simp only at he;split at he
   ·split at he
    ·exact(F_ hl h1 D hx hy he).2
    ·cases he
   ·cases he
  ·cases h2
theorem Kg {t:TypeId} {k:Dn} (hm:FV P t k=true) {x y:AV} {X Y:Value} {r:Bool} (he:Jb k x y=some r) (hx:ax φ K w x X) (hy:ax φ K w y Y) :
  (Op.equal t X Y).run P w=.ok r w:=Iu 9900 hm he hx hy
def So (P:Program) (o:Oper) (k:Dn) (neg:Bool) (x y:aR):Bool:=match o.op with
 |.binOp op t x' y' _=>(match op with|.eql=>!neg|.neq=>neg|_=>false)&&bV x' x&&bV y' y&&FV P t k&&(match k with|.one .bool=>true|.slice=>true|.agg _=>true|_=>false)
 |_=>false
theorem Rc (s:ck top φ K h nx w) (hρ:∀x y,bV x y=true->ax φ K w (ρ y) (ρc x)) {k:Dn} {neg:Bool} {x y:aR} (hm:So P o k neg x y=true) {p:bg} (hp:HB ρ k neg x y=some p):Sound top P φ K h nx w ρc o p:=by
 unfold So at hm;split at hm
 ·rename_i op t x' y' t' ho;simp only [UN] at hm;obtain⟨⟨⟨⟨hop,h1⟩,h2⟩,h3⟩,h4⟩:=hm;have hx:=hρ _ _ h1;have hy:=hρ _ _ h2;unfold HB at hp;split at hp
  ·rename_i r he;cases hp;have hrun:=Kg h3 he hx hy;have hform:(eqGuard op t x' y' (ρc x') (ρc y')).run P w=.ok () w/\((binOp .eql t (ρc x') (ρc y')).run P w=.ok (.bool r) w)/\((binOp .neq t (ρc x') (ρc y')).run P w=.ok (.bool !r) w):=by
    cases k with
    |one l=>
     rcases ug he hx hy with ⟨rfl,_⟩|⟨rfl,a,b,hX,hY,rfl⟩|⟨rfl,_⟩
     ·cases h4
     ·rw [hX,hY] at hrun ⊢;exact⟨wO op t x' y' _ _ (.inr (.inr ⟨_,rfl⟩)),by simp [binOp,hrun],by simp [binOp,hrun]⟩
     ·cases h4
    |slice=>
     have hs:(∃ad n c,ρc x'=.slice ad n c)/\(∃ad n c,ρc y'=.slice ad n c):=by
      have key:∀{v:AV} {V:Value},ax φ K w v V->Bn v=true->∃ad n c,V=.slice ad n c:=by
       intro v V hr hi;cases v<;>first
        |(cases hi;done)
        |exact⟨_,_,_,dw hr⟩
        |(obtain⟨ad,c',h2,_⟩:=jf hr;exact⟨_,_,_,h2⟩)
        |(obtain⟨b,base,ad,c',h2,_⟩:=fu hr;exact⟨_,_,_,h2⟩)
      have:Bn (ρ x)=true/\Bn (ρ y)=true:=by
       unfold Jb at he;simp only at he;split at he<;>first
        |(split at he<;>first|(simp_all [Bn];done)|(cases he;done))
        |(cases he;done)
      exact⟨key hx this.1,key hy this.2⟩
     obtain⟨⟨a1,n1,c1,hX⟩,⟨a2,n2,c2,hY⟩⟩:=hs;rw [hX,hY] at hrun ⊢;exact⟨by cases op<;>simp [eqGuard],by simp [binOp,hrun],by simp [binOp,hrun]⟩
    |agg ls=>
     simp only [FV,UN,UP] at h3;have hag:(∃a,ρ x=.agg a)/\(∃b,ρ y=.agg b):=by
      unfold Jb at he;simp only at he;split at he
      ·split at he
       ·rename_i hxe _ _ hye;exact⟨⟨_,hxe⟩,⟨_,hye⟩⟩
       ·cases he
      ·cases he
     obtain⟨⟨a,hxa⟩,⟨b,hyb⟩⟩:=hag;rw [hxa] at hx;rw [hyb] at hy;obtain⟨xs,hX,_⟩:=lg hx;obtain⟨ys,hY,_⟩:=lg hy;rw [hX,hY] at hrun ⊢;exact⟨run_eqGuard_agg w op t x' y' xs ys h3.2,by simp [binOp,hrun],by simp [binOp,hrun]⟩
   obtain⟨hg,hb1,hb2⟩:=hform;cases op<;>simp only [Bool.false_eq_true] at hop
   ·cases neg
    ·refine aY s (V:=.bool r) ?_ (.pure (.bool _));simp only [execOp,ho];refine gm ?_;simp [hg,hb1]
    ·cases hop
   ·cases neg
    ·cases hop
    ·refine aY s (V:=.bool !r) ?_ (.pure (.bool _));simp only [execOp,ho];refine gm ?_;simp [hg,hb2]
  ·cases hp
 ·cases hm
end
end Go.Ax
namespace Go.Ax
theorem AW {α:Type} (l:List α):∀(n k:Nat),k < n*l.length->(List.replicate n l).flatten[k]?=l[k % l.length]?:=by
 intro n
 induction n with
 |zero=>intro k h;simp at h
 |succ n ih=>
  intro k h;rw [List.replicate_succ,List.flatten_cons];rcases Nat.lt_or_ge k l.length with hk|hk
  ·rw [Uq hk,Nat.mod_eq_of_lt hk]
  ·rw [Ur hk,ih (k - l.length) (by rw [Nat.succ_mul] at h;omega),Nat.mod_eq_sub_mod hk]
theorem yg (z:Array Value) (n k:Nat) (hz:0 < z.size) (hk:k < n):((Array.range n).map (z[·% z.size]!))[k]?=z[k % z.size]?:=by have:k % z.size < z.size:=Nat.mod_lt _ hz;simp [Array.getElem?_map,Array.getElem?_range,hk,this]
theorem F3 (l:List Value):∀(s off:Nat) (cells:Array Value),off+s+l.length<=cells.size->
  (((l.zipIdx s).foldl (fun cs (x:Value×Nat)=>cs.setIfInBounds (off+x.2) x.1) cells).size=cells.size/\
   ∀k,((l.zipIdx s).foldl (fun cs (x:Value×Nat)=>cs.setIfInBounds (off+x.2) x.1) cells)[k]?=if off+s<=k/\k < off+s+l.length then l[k - (off+s)]? else cells[k]?):=by
 induction l with
 |nil=>intro s off cells h;refine⟨rfl,fun k=>?_⟩;rw [if_neg (fun hc=>by simp only [List.length_nil] at hc;omega)];rfl
 |cons v l ih=>
  intro s off cells h;simp only [UD] at h;obtain⟨h1,h2⟩:=ih (s+1) off (cells.setIfInBounds (off+s) v) (by simp;omega);simp only [List.zipIdx_cons,List.foldl_cons];refine⟨by rw [h1];simp,fun k=>?_⟩;rw [h2 k];by_cases hk:k=off+s
  ·subst hk;rw [if_neg (by omega),if_pos (by simp only [UD];omega),Array.getElem?_setIfInBounds_self_of_lt (by omega)];simp
  ·rw [Array.getElem?_setIfInBounds_ne (by omega)];by_cases hin:off+(s+1)<=k/\k < off+(s+1)+l.length
   ·rw [if_pos hin,if_pos (by simp only [UD];omega)];rw [show k - (off+s)=(k - (off+(s+1)))+1 by omega];simp
   ·rw [if_neg hin,if_neg (by simp only [UD];omega)]
section
variable {top:Nat} {P:Program} {φ:gW} {K:Nat->Prop} {h:bz} {nx:Nat} {w:World} {ρ:aR->AV} {ρc:Operand->Value} {o:Oper}
def bq (φ:gW) (K:Nat->Prop) (w:World) (cs:List AV) (c:Array Value):Prop:=cs.length=c.size/\∀(j:Nat) (a:AV),cs[j]?=some a->a.one=true/\∃v,c[j]?=some v/\ax φ K w a v
theorem qq (ρ:aR->AV) (p:Nat×Nat×aR) (parts:List (Nat×Nat×aR)) (cells:List AV):fill ρ (p::parts) cells=match (ρ p.2.2).cells? with
 |none=>none
 |some cs=>bif Nat.beq cs.length p.2.1 then match dz cells p.1 cs with
   |some cells=>fill ρ parts cells
   |none=>none
  else none:=rfl
def vi (place:Nat->Nat->Nat->Bool):List (Nat×Operand)->List (Nat×Nat×aR)->Bool
 |[],[]=>true
 |(i,x')::l,(off,sz,x)::m=>place i off sz&&bV x' x&&vi place l m
 |_,_=>false
theorem ud {place:Nat->Nat->Nat->Bool} {pl:Nat->Option (Nat×Nat)} (hpl:∀i off sz,place i off sz=true->pl i=some (off,sz)) :
  ∀(parts':List (Nat×Operand)) (parts:List (Nat×Nat×aR)) (cells cells':List AV) (c:Array Value),(∀x y,y∈parts.map (·.2.2)->bV x y=true->ax φ K w (ρ y) (ρc x))->vi place parts' parts=true->fill ρ parts cells=some cells'->bq φ K w cells c->
   ∃c',Instr.fill pl c (parts'.map fun p=>(p.1,ρc p.2))=some c'/\bq φ K w cells' c'
 |[],[],cells,cells',c,_,_,hf,hc=>by cases hf;exact⟨c,rfl,hc⟩
 |[],_::_,_,_,_,_,hm,_,_=>by cases hm
 |_::_,[],_,_,_,_,hm,_,_=>by cases hm
 |(i,x')::l,(off,sz,x)::m,cells,cells',c,hρ,hm,hf,hc=>by
  simp only [vi,UN] at hm;obtain⟨⟨h1,h2⟩,h3⟩:=hm;have hr:=hρ _ _ (by simp) h2;have hp:=hpl _ _ _ h1;rw [qq] at hf;simp only at hf;split at hf
  ·cases hf
  ·rename_i cs hcs;simp only [cond_eq_ite,UQ] at hf;split at hf
   ·rename_i hsz;split at hf
    ·rename_i qxx hov;obtain⟨hl,hrr⟩:=uZ hr hcs;obtain⟨ho1,ho2⟩:=e9 hov;have hof:=(dR hov).1;have hcl:(ρc x').cells.toList.length=cs.length:=by simp [hl]
     obtain⟨f1,f2⟩:=F3 (ρc x').cells.toList 0 off c (by rw [hcl,←hc.1];omega);simp only [List.map_cons,Instr.fill,hp];rw [if_neg (by rw [←hc.1,←hl];simp only [ne_eq,hsz,not_true_eq_false,UO,UT,decide_false,Bool.false_eq_true,false_or];omega)];have qzv:(ρc x').cells.zipIdx.foldl (fun cs (x:Value×Nat)=>cs.setIfInBounds (off+x.2) x.1) c=(((ρc x').cells.toList.zipIdx 0).foldl (fun cs (x:Value×Nat)=>cs.setIfInBounds (off+x.2) x.1) c):=by rw [←Array.foldl_toList,Array.toList_zipIdx]
     refine ud hpl l m qxx cells' _ (fun x y hy=>hρ x y (by rw [List.map_cons];exact UH _ hy)) h3 hf ⟨?_,fun j a ha=>?_⟩
     ·show qxx.length=((ρc x').cells.zipIdx.foldl (fun cs (x:Value×Nat)=>cs.setIfInBounds (off+x.2) x.1) c).size;rw [qzv,f1,ho1,hc.1]
     ·show a.one=true/\∃v,((ρc x').cells.zipIdx.foldl (fun cs (x:Value×Nat)=>cs.setIfInBounds (off+x.2) x.1) c)[j]?=some v/\_;rw [qzv,f2 j];rw [ho2 j] at ha;simp only [Nat.add_zero,hcl];by_cases hin:off<=j/\j < off+cs.length
      ·rw [if_pos hin] at ha ⊢;obtain⟨r1,v,r2,r3⟩:=hrr _ a ha;exact⟨r1,v,by rw [Array.getElem?_toList];exact r2,r3⟩
      ·rw [if_neg hin] at ha ⊢;exact hc.2 j a ha
    ·cases hf
   ·cases hf
theorem DJ (fs:List Field) (hs:∀f∈fs,(P.info? f.type).isSome=true):(fs.mapM fun f=>(do pure (f.offset,←sizeOf f.type):Sem (Nat×Nat))).run P w=.ok (fs.map fun f=>(f.offset,P.cellsOf f.type)) w:=by
 induction fs with
 |nil=>simp
 |cons f fs ih=>obtain⟨i,hi⟩:=Option.isSome_iff_exists.1 (hs f (by simp));have ih':=ih (fun g hg=>hs g (by simp [hg]));simp only [List.mapM_cons,Sem.run_bind,Sem.run_pure,Result.andThen_ok,run_sizeOf w hi] at ih' ⊢;rw [ih'];simp
def D1 (P:Program) (o:Oper) (zero:List AV) (parts:List (Nat×Nat×aR)):Bool:=match o.op with
 |.build t ps=>yh P t zero&&(match P.underlying t with
  |some (.struct fs)=>(fs.toList.all fun f=>(P.info? f.type).isSome)&&vi (fun i off sz=>match fs[i]? with|some f=>Nat.beq f.offset off&&lR P f.type sz|none=>false) ps.toList parts
  |some (.array _ e)=>(match P.info? e with|some ie=>vi (fun i off sz=>Nat.beq off (i*ie.size)&&Nat.beq sz ie.size) ps.toList parts|none=>false)
  |_=>false)
 |_=>false
theorem Jv (s:ck top φ K h nx w) (hρ:∀x y,bV x y=true->ax φ K w (ρ y) (ρc x)) {zero:List AV} {parts:List (Nat×Nat×aR)} (hm:D1 P o zero parts=true) {p:bg} (hp:mZ ρ zero parts=some p):Sound top P φ K h nx w ρc o p:=by
 unfold D1 at hm;split at hm
 ·rename_i t ps ho;simp only [UN] at hm;obtain⟨h1,h2⟩:=hm;obtain⟨z,hz,_,hzl,hzr⟩:=qi h1 K w;have hcz:bq φ K w zero z.cells:=⟨hzl,fun j a ha=>⟨(hzr j a ha).1,let ⟨v,a1,a2⟩:=(hzr j a ha).2;⟨v,a1,.pure a2⟩⟩⟩;unfold mZ at hp;split at hp
  ·rename_i cs hf;cases hp;have hps:(ps.map fun (x:Nat×Operand)=>(x.1,ρc x.2)).toList=ps.toList.map fun p=>(p.1,ρc p.2):=by simp
   split at h2
   ·rename_i fs hu;simp only [UN,UM] at h2;obtain⟨c',hc1,hc2⟩:=ud (ρ:=ρ) (ρc:=ρc) (pl:=fun i=>(fs.map fun f=>(f.offset,P.cellsOf f.type))[i]?) (fun i off sz hpl=>by
     split at hpl
     ·rename_i f hff;simp only [UN,UQ] at hpl;obtain⟨ii,hii,hsz⟩:=dY hpl.2;rw [UQ] at hsz;simp [hff,hpl.1,Program.cellsOf,hii,hsz]
     ·cases hpl) ps.toList parts zero cs z.cells (fun x y _=>hρ x y) h2.2 hf hcz
    refine aY s (V:=.agg c') ?_ (.agg _ _ hc2.1 (fun j a ha=>(hc2.2 j a ha).1) (fun j a v ha hv=>?_))
    ·simp only [execOp,ho];refine gm ?_;have hpr:=DJ (P:=P) (w:=w) fs.toList h2.1;have qjE:(fs.mapM fun f=>(do pure (f.offset,←sizeOf f.type):Sem (Nat×Nat))).run P w=.ok (fs.map fun f=>(f.offset,P.cellsOf f.type)) w:=by rw [Array.mapM_eq_mapM_toList,Sem.run_map,hpr,Result.andThen_ok];congr 1;apply Array.ext';simp
     have qzb:Instr.fill (fun x=>((fs.map fun f=>(f.offset,P.cellsOf f.type))[x]?:Option (Nat×Nat))) z.cells (ps.map fun (x:Nat×Operand)=>(x.1,ρc x.2)).toList=some c':=by rw [hps];exact hc1
     simp only [Instr.build,Sem.run_bind,hz,Result.andThen_ok,run_underlying hu,qjE,qzb];rfl
    ·obtain⟨_,v',r1,r2⟩:=hc2.2 j a ha;rw [r1] at hv;cases hv;exact r2
   ·rename_i n e hu;split at h2
    ·rename_i ie hie;obtain⟨c',hc1,hc2⟩:=ud (ρ:=ρ) (ρc:=ρc) (pl:=fun i=>some (i*P.cellsOf e,P.cellsOf e)) (fun i off sz hpl=>by simp only [UN,UQ] at hpl;simp [hpl.1,hpl.2,Program.cellsOf,hie]) ps.toList parts zero cs z.cells (fun x y _=>hρ x y) h2 hf hcz
     refine aY s (V:=.agg c') ?_ (.agg _ _ hc2.1 (fun j a ha=>(hc2.2 j a ha).1) (fun j a v ha hv=>?_))
     ·simp only [execOp,ho];refine gm ?_;have qzb:Instr.fill (fun i=>some (i*P.cellsOf e,P.cellsOf e)) z.cells (ps.map fun (x:Nat×Operand)=>(x.1,ρc x.2)).toList=some c':=by rw [hps];exact hc1
      simp only [Instr.build,Sem.run_bind,hz,Result.andThen_ok,run_underlying hu,run_sizeOf w hie,qzb];rfl
     ·obtain⟨_,v',r1,r2⟩:=hc2.2 j a ha;rw [r1] at hv;cases hv;exact r2
    ·cases h2
   ·cases h2
  ·cases hp
 ·cases hm
def FU (P:Program) (o:Oper) (es len:Nat) (zero:List AV) (parts:List (Nat×Nat×aR)):Bool:=match o.op with
 |.buildSlice t n ps=>Nat.beq n len&&(match P.underlying t with
  |some (.slice e)=>(match P.info? e with
   |some ie=>Nat.beq ie.size es&&Nat.ble (n*es) 16777216&&vi (fun i off sz=>Nat.beq off (i*ie.size)&&Nat.beq sz ie.size) ps.toList parts&&(match ie.zero with
    |some z=>Nat.beq z.cells.size es&&Nat.blt 0 es&&yj (List.replicate n z.cells.toList).flatten zero
    |none=>false)
   |none=>false)
  |_=>false)
 |_=>false
theorem E2 (s:ck top φ K h nx w) {es len:Nat} {zero cs:List AV} {parts:List (Nat×Nat×aR)} (hρ:∀x y,y∈parts.map (·.2.2)->bV x y=true->ax φ K w (ρ y) (ρc x)) (hm:FU P o es len zero parts=true) (hf:fill ρ parts zero=some cs) :
  ∃(c:Array Value) (e:TypeId),(execOp ρc o).run P w=.ok (.value (.slice (some ⟨w.heap.size,0,none⟩) len len)) (w.alloc (.cells c e))/\bq φ K w cs c/\c.size=len*es:=by
 unfold FU at hm;split at hm
 ·rename_i t n ps ho;simp only [UN,UQ] at hm;obtain⟨rfl,hm⟩:=hm;split at hm
  ·rename_i e hu;split at hm
   ·rename_i ie hie;simp only [UN,UQ,UR] at hm;obtain⟨⟨⟨rfl,hsm⟩,hps⟩,hm⟩:=hm;split at hm
    ·rename_i z hz;simp only [UN,UQ,US] at hm;obtain⟨⟨hzs,hpos⟩,qzO⟩:=hm;obtain⟨v1,v2,_⟩:=qj qzO K w;have hsz:=run_sizeOf w hie;have hce:P.cellsOf e=ie.size:=by simp [Program.cellsOf,hie]
     have hzv:(zeroValue e).run P w=.ok z w:=by simp [zeroValue,typeInfo,hie,hz]
     have hlen:(List.replicate n z.cells.toList).flatten.length=n*ie.size:=by simp [hzs]
     have hcz:bq φ K w zero ((Array.range (n*ie.size)).map (z.cells[·% z.cells.size]!)):=by
      refine⟨by rw [v1,hlen];simp,fun j a ha=>?_⟩;obtain⟨r1,v,r2,r3⟩:=v2 j a ha;have hj:j < n*ie.size:=by
       rcases Nat.lt_or_ge j zero.length with h'|h'
       ·omega
       ·rw [Ut h'] at ha;cases ha
      rw [AW _ n j (by simpa [hzs] using hj)] at r2;exact⟨r1,v,by rw [yg _ _ _ (by omega) hj];simpa using r2,.pure r3⟩
     obtain⟨c',hc1,hc2⟩:=ud (ρ:=ρ) (ρc:=ρc) (pl:=fun i=>some (i*P.cellsOf e,P.cellsOf e)) (fun i off sz hpl=>by simp only [UN,UQ] at hpl;simp [hpl.1,hpl.2,hce]) ps.toList parts zero cs _ hρ hps hf hcz
     have hcs:c'.size=n*ie.size:=by
      have hl:∀(parts:List (Nat×Nat×aR)) (cells cells':List AV),fill ρ parts cells=some cells'->cells'.length=cells.length:=by
       intro parts
       induction parts with
       |nil=>intro cells cells' hh;cases hh;rfl
       |cons p parts ih=>
        intro cells cells' hh;rw [qq] at hh;split at hh
        ·cases hh
        ·simp only [cond_eq_ite] at hh;split at hh
         ·split at hh
          ·rename_i hov;rw [ih _ _ hh,(e9 hov).1]
          ·cases hh
         ·cases hh
      rw [←hc2.1,hl _ _ _ hf,v1,hlen]
     have qjD:(ps.map fun (x:Nat×Operand)=>(x.1,ρc x.2)).toList=ps.toList.map fun p=>(p.1,ρc p.2):=by simp
     refine⟨c',e,?_,hc2,hcs⟩;simp only [execOp,ho];refine gm ?_;have h24:¬(n*P.cellsOf e > 2 ^ 24):=by rw [hce];omega
     have qzb:Instr.fill (fun i=>some (i*P.cellsOf e,P.cellsOf e)) ((Array.range (n*P.cellsOf e)).map (z.cells[·% z.cells.size]!)) (ps.map fun (x:Nat×Operand)=>(x.1,ρc x.2)).toList=some c':=by rw [qjD,hce];rw [hce] at hc1;exact hc1
     simp only [Instr.buildSlice,Sem.run_bind,run_underlying hu,Result.andThen_ok,hsz,if_neg h24];by_cases hn0:n*P.cellsOf e=0
     ·have hn:n=0:=by
       rw [hce] at hn0;rcases Nat.mul_eq_zero.1 hn0 with h0|h0
       ·exact h0
       ·omega
      subst hn;have e0:Array.range (0*P.cellsOf e)=#[]:=by rw [Nat.zero_mul];rfl
      rw [e0,Array.map_empty] at qzb;rw [if_pos hn0,e0];simp only [Sem.run_pure,Result.andThen_ok,Array.map_empty,qzb,Sem.run_bind,newRow,run_newObj];rfl
     ·simp only [if_neg hn0,Sem.run_bind,hzv,Result.andThen_ok,Sem.run_pure,qzb];simp [newRow]
    ·cases hm
   ·cases hm
  ·cases hm
 ·cases hm
theorem GW (s:ck top φ K h nx w) (hρ:∀x y,bV x y=true->ax φ K w (ρ y) (ρc x)) {es len:Nat} {zero:List AV} {parts:List (Nat×Nat×aR)} (hm:FU P o es len zero parts=true) {p:bg} (hp:lq ρ es len zero parts=some p):Sound top P φ K h nx w ρc o p:=by
 unfold lq at hp;split at hp
 ·rename_i cs hf;cases hp;obtain⟨c,e,h1,h2,h3⟩:=E2 s (fun x y _=>hρ x y) hm hf;refine qd s _ cs c e _ h1 (by rw [h2.1];exact U3 _) h2.2 ?_;exact .ref nx 0 0 es len len false w.heap.size 0 ⟨w.heap.size,0,none⟩ len (by simp) (U3 _) (U3 _) (fun h=>by cases h) (fun _=>⟨rfl,c,e,(0,0),mq w _,by omega⟩)
 ·cases hp
theorem yP {a:AV} {v:Value} (hf:a.flat=true) (r:ax φ K w a v):fY K w a v:=by
 cases r with
 |pure r=>exact r
 |ptr=>cases hf
 |ref=>cases hf
 |agg=>cases hf
 |iR=>cases hf
 |nU=>cases hf
theorem D7 (s:ck top φ K h nx w) (c0:Array Value) (e0:TypeId):c7 top φ K h nx w φ (fun b=>K b\/b=w.heap.size) h nx (w.alloc (.cells c0 e0)):=by
 generalize hob:Obj.cells c0 e0=ob;have hsame:∀b,b < w.heap.size->(w.alloc ob).heap[b]?=w.heap[b]?:=fun b hb=>vU w _ hb
 have qxm:∀(b:Nat) (c0:Array Value) (e0:TypeId) (fr:Nat×Nat),w.heap[b]?=some (Obj.cells c0 e0 fr)->∃c':Array Value,(w.alloc ob).heap[b]?=some (Obj.cells c' e0 fr)/\c'.size=c0.size:=by intro b c0 e0 fr hb;exact⟨c0,by rw [hsame b (Array.getElem?_eq_some_iff.1 hb).1];exact hb,rfl⟩
 have hval:∀{a:AV} {v:Value},ax φ K w a v->ax φ (fun b=>K b\/b=w.heap.size) (w.alloc ob) a v:=fun r=>ax.keep (fun _ _ _ h=>h) (fun _ h=>.inl h) (fun b hb=>hsame b (s.nX b hb).1) qxm r
 have qx5:∀b,zb φ h b->b < w.heap.size:=fun b ⟨id,ob',base,h1,h2⟩=>gq s h1 h2
 refine⟨fun _ _ _ h=>h,fun _ h=>.inl h,⟨fun b hb=>?_,fun id g cells hh=>?_,fun id es hh=>?_,s.inj,s.low,s.new⟩,⟨by rw [World.size_alloc];omega,fun b hb _=>hsame b hb,qxm,rfl,rfl,rfl,fun a=>by rw [←hob];exact RowKit.frozen?_alloc_cells w c0 e0 a⟩,fun b hb=>.inl hb,fun b hb=>?_,fun _ _ _ h=>.inl h,fun _ h=>.inl h,U3 _⟩
 ·rw [World.size_alloc];rcases hb with hb|rfl
  ·exact⟨Nat.lt_succ_of_lt (s.nX b hb).1,(s.nX b hb).2⟩
  ·exact⟨Nat.lt_succ_self _,fun hm=>Nat.lt_irrefl _ (qx5 _ hm)⟩
 ·obtain⟨b,base,c,e,h1,h2,h3,h4⟩:=s.row id g cells hh;refine⟨b,base,c,e,h1,by rw [hsame b (Array.getElem?_eq_some_iff.1 h2).1];exact h2,h3,fun j a ha=>⟨(h4 j a ha).1,?_⟩⟩;obtain⟨v,hv1,hv2⟩:=(h4 j a ha).2;exact⟨v,hv1,hval hv2⟩
 ·obtain⟨b,mes,clk,h1,h2,h3,h4⟩:=s.map id es hh;refine⟨b,mes,clk,h1,by rw [hsame b (Array.getElem?_eq_some_iff.1 h2).1];exact h2,h3,fun j k v hj=>?_⟩;obtain⟨me,m1,m2,m3⟩:=h4 j k v hj;exact⟨me,m1,hval m2,hval m3⟩
 ·rcases hb with hb|rfl
  ·exact .inl hb
  ·exact .inr (.inl (U3 _))
theorem B7 (s:ck top φ K h nx w) {es len:Nat} {zero:List AV} {parts:List (Nat×Nat×aR)} (hρ:∀x y,y∈parts.map (·.2.2)->bV x y=true->ax φ K w (ρ y) (ρc x)) (hm:FU P o es len zero parts=true) {p:bg} (hp:ep ρ len zero parts=some p):Sound top P φ K h nx w ρc o p:=by
 unfold ep at hp;split at hp
 ·rename_i cs hf;rw [cond_eq_ite] at hp;split at hp
  ·rename_i qzw;rw [aX] at qzw;cases hp;obtain⟨c,e,h1,h2,h3⟩:=E2 s hρ hm hf;intro v h' nx' hr qxe;cases hr;have hg:=D7 s c e;refine⟨_,_,φ,_,.inl h1,hg,.pure ?_⟩;refine .ei cs len (some len) ⟨w.heap.size,0,none⟩ len (fun j=>c.getD j undef) (fun _=>⟨rfl,.inr rfl⟩) (U3 _) (fun c hc=>by cases hc;rfl) (fun j a ha=>(h2.2 j a ha).1) (fun j hj=>?_) (fun j a ha=>?_)
   ·have hj':j < c.size:=by rw [←h2.1];exact hj
    simp [Array.getElem?_eq_getElem hj']
   ·obtain⟨_,v,r1,r2⟩:=h2.2 j a ha;have hj':j < c.size:=(Array.getElem?_eq_some_iff.1 r1).1;have hv:c.getD j undef=v:=by rw [Array.getElem?_eq_getElem hj'] at r1;simp [hj'];exact U0 r1
    rw [hv];exact yP (qzw a (Uw ha)) (hg.val s r2)
  ·cases hp
 ·cases hp
theorem qx (hρ:∀x y,bV x y=true->ax φ K w (ρ y) (ρc x)) {x':Option Operand} {x:Option aR} (hm:wU x' x=true) {other y n:Nat} (hb:Fv ρ x other y=some n) (code:BoundsCode) :
  (x=none/\x'=none/\n=other)\/(∃X,x'.map ρc=some X/\n<=y/\x.isSome=true/\∀y',n<=y'->∀code,(Instr.sliceBound X y' code).run P w=.ok n w):=by
 cases x with
 |none=>cases x' with
  |none=>cases hb;exact .inl ⟨rfl,rfl,rfl⟩
  |some x'=>cases hm
 |some x=>cases x' with
  |none=>cases hm
  |some x'=>
   right;have hr:=hρ _ _ hm;unfold Fv at hb;simp only at hb;split at hb
   ·rename_i k i hx;obtain⟨rfl,hle⟩:=uq hb;rw [hx] at hr;have hX:=eo hr;refine⟨ρc x',rfl,hle,rfl,fun y' hy' code=>?_⟩;simp [Instr.sliceBound,hX,asIntOf,hy']
   ·cases hb
def kT (mx:Option aR) (c' m:Nat):Nat:=match mx with|none=>c'|some _=>m
theorem E8 (c:Prop) [Decidable c] (a b:Addr):(if c then some a else (some b:Option Addr))=some (if c then a else b):=by split<;>rfl
theorem Da (mx:Option aR) {c' m:Nat} (h:m<=c'):m<=kT mx c' m/\kT mx c' m<=c':=by cases mx<;>simp [kT,h]
theorem Az {ρ:aR->AV} {lo hi:Option aR} {len cap l hh m:Nat} (h:lM ρ lo hi none len cap=some (l,hh,m)):m=cap:=by
 unfold lM at h;simp only [Fv] at h
 repeat' (split at h<;>try cases h)
 all_goals first|rfl|(cases h;rfl)|skip
theorem pS (hρ:∀x y,bV x y=true->ax φ K w (ρ y) (ρc x)) {lo' hi' mx':Option Operand} {lo hi mx:Option aR} (h1:wU lo' lo=true) (h2:wU hi' hi=true) (h3:wU mx' mx=true) {len cap cap' l hh m:Nat}
  (hb:lM ρ lo hi mx len cap=some (l,hh,m)) (hcc:cap<=cap') (hlc:len<=cap) (hhi:mx.isSome=true->hi.isSome=true) (isSlice:Bool) :
  (Instr.sliceBounds isSlice len cap' (lo'.map ρc) (hi'.map ρc) (mx'.map ρc)).run P w=.ok (l,hh,kT mx cap' m) w/\l<=hh/\hh<=m/\m<=cap:=by
 unfold lM at hb;split at hb
 ·cases hb
 ·rename_i m0 hm0;split at hb
  ·cases hb
  ·rename_i h0 hh0;split at hb
   ·cases hb
   ·rename_i l0 hl0;cases hb;rcases qx (P:=P) hρ h3 hm0 .index with ⟨rfl,rfl,rfl⟩|⟨M,eM,hM,hMs,rM⟩
    ·rcases qx (P:=P) hρ h2 hh0 .index with ⟨rfl,rfl,rfl⟩|⟨Hh,eH,hH,_,rH⟩
     ·rcases qx (P:=P) hρ h1 hl0 .index with ⟨rfl,rfl,rfl⟩|⟨Lo,eL,hL,_,rL⟩
      ·exact⟨by simp [Instr.sliceBounds,kT],by omega,by omega,by omega⟩
      ·refine⟨?_,by omega,by omega,by omega⟩;simp only [Instr.sliceBounds,kT,Option.map_none,eL,Sem.run_bind,Sem.run_pure,Result.andThen_ok,rL _ hL]
     ·rcases qx (P:=P) hρ h1 hl0 .index with ⟨rfl,rfl,rfl⟩|⟨Lo,eL,hL,_,rL⟩
      ·refine⟨?_,by omega,by omega,by omega⟩;simp only [Instr.sliceBounds,kT,Option.map_none,eH,Sem.run_bind,Sem.run_pure,Result.andThen_ok,rH cap' (by omega)]
      ·refine⟨?_,by omega,by omega,by omega⟩;simp only [Instr.sliceBounds,kT,Option.map_none,eH,eL,Sem.run_bind,Sem.run_pure,Result.andThen_ok,rH cap' (by omega),rL _ hL]
    ·obtain⟨mx,rfl⟩:=Option.isSome_iff_exists.1 hMs;rcases qx (P:=P) hρ h2 hh0 .index with ⟨rfl,rfl,rfl⟩|⟨Hh,eH,hH,_,rH⟩
     ·exact absurd (hhi rfl) (by simp)
     ·rcases qx (P:=P) hρ h1 hl0 .index with ⟨rfl,rfl,rfl⟩|⟨Lo,eL,hL,_,rL⟩
      ·refine⟨?_,by omega,by omega,by omega⟩;simp only [Instr.sliceBounds,kT,Option.map_none,eM,eH,Sem.run_bind,Sem.run_pure,Result.andThen_ok,rM cap' (by omega),rH _ hH]
      ·refine⟨?_,by omega,by omega,by omega⟩;simp only [Instr.sliceBounds,kT,eM,eH,eL,Sem.run_bind,Sem.run_pure,Result.andThen_ok,rM cap' (by omega),rH _ hH,rL _ hL]
def DV (P:Program) (o:Oper) (x:aR) (lo hi:Option aR):Bool:=match o.op with
 |.slice t x' lo' hi' none=>bV x' x&&wU lo' lo&&wU hi' hi&&GF P t
 |_=>false
theorem Jq (s:ck top φ K h nx w) (hρ:∀x y,bV x y=true->ax φ K w (ρ y) (ρc x)) {x:aR} {lo hi:Option aR} (hm:DV P o x lo hi=true) {p:bg} (hp:oh ρ x lo hi=some p):Sound top P φ K h nx w ρc o p:=by
 unfold DV at hm;split at hm
 ·rename_i t x' lo' hi' ho;simp only [UN] at hm;obtain⟨⟨⟨h1,h2⟩,h3⟩,h4⟩:=hm;have hu:=qb h4;have hr:=hρ _ _ h1;unfold oh at hp;split at hp
  ·rename_i q hx;split at hp
   ·cases hp
   ·rename_i l hh m hb;cases hp;rw [hx] at hr;have hX:=ld hr;obtain⟨hrun,_⟩:=pS (P:=P) (w:=w) hρ (mx':=none) (mx:=none) h2 h3 rfl hb (U3 _) (U3 _) (fun h=>by cases h) false;refine aY s (V:=.string (q.extract l hh)) ?_ (.pure (.str _));simp only [execOp,ho];refine gm ?_;simp only [Option.map_none] at hrun;simp [Instr.sliceAt,run_underlying hu,Instr.slice,hX,hrun]
  ·cases hp
 ·cases hm
def HS (P:Program) (o:Oper) (es:Nat) (x:aR) (lo hi mx:Option aR):Bool:=match o.op with
 |.slice t x' lo' hi' mx'=>bV x' x&&wU lo' lo&&wU hi' hi&&wU mx' mx&&EA P t es&&(match mx with|none=>true|some _=>hi.isSome)
 |_=>false
theorem Lw (s:ck top φ K h nx w) (hρ:∀x y,bV x y=true->ax φ K w (ρ y) (ρc x)) {es:Nat} {x:aR} {lo hi mx:Option aR} (hm:HS P o es x lo hi mx=true) {p:bg} (hp:fe (Dy es ρ (ρ x) lo hi mx)=some p):Sound top P φ K h nx w ρc o p:=by
 unfold HS at hm;split at hm
 ·rename_i t x' lo' hi' mx' ho;simp only [UN] at hm;obtain⟨⟨⟨⟨⟨h1,h2⟩,h3⟩,h4⟩,h5⟩,h6⟩:=hm;obtain⟨e,hu,hs⟩:=rU h5;have hr:=hρ _ _ h1;have hhi:mx.isSome=true->hi.isSome=true:=by intro xh;obtain⟨q,rfl⟩:=Option.isSome_iff_exists.1 xh;exact h6
  obtain⟨v,hv,rfl⟩:=eW hp;have hex:∀V,(Instr.slice t (ρc x') (lo'.map ρc) (hi'.map ρc) (mx'.map ρc)).run P w=.ok V w->(execOp ρc o).run P w=.ok (.value V) w:=by intro V hV;simp only [execOp,ho];refine gm ?_;simp only [Instr.sliceAt,Sem.run_bind,run_underlying hu,Result.andThen_ok];exact hV
  have hsl:∀(a:Option Addr) (len c' l hh m:Nat),ρc x'=.slice a len c'->(Instr.sliceBounds true len c' (lo'.map ρc) (hi'.map ρc) (mx'.map ρc)).run P w=.ok (l,hh,m) w->
    (Instr.slice t (ρc x') (lo'.map ρc) (hi'.map ρc) (mx'.map ρc)).run P w=.ok (.slice (if m=l then a else a.map (·.add (l*es))) (hh - l) (m - l)) w:=by
   intro a len c' l hh m hX hb;simp [Instr.slice,hX,run_underlying hu,hb,fk hs]
  unfold Dy at hv;split at hv
  ·rename_i hx;rw [hx] at hr;have hX:=dw hr;split at hv
   ·cases hv
   ·rename_i q hb;cases hv;obtain⟨l,hh,m⟩:=q;obtain⟨hrun,hl1,hl2,hl3⟩:=pS (P:=P) (w:=w) hρ h2 h3 h4 hb (U3 0) (U3 0) hhi true;have hm0:m=0:=by omega
    have hh0:hh=0:=by omega
    have hl0:l=0:=by omega
    subst hm0 hh0 hl0;have qzV:(Instr.sliceBounds true 0 0 (lo'.map ρc) (hi'.map ρc) (mx'.map ρc)).run P w=.ok (0,0,0) w:=by rw [hrun];cases mx<;>rfl
    refine aY s (V:=.slice none 0 0) (hex _ ?_) (.pure .ay);rw [hsl none 0 0 0 0 0 hX qzV];simp
  ·rename_i cs n cap hx;simp only [cond_eq_ite,UQ] at hv;split at hv
   ·rename_i hn;split at hv
    ·cases hv
    ·rename_i l hh m hb;split at hv
     ·rename_i cs' qxj;cases hv;rw [hx] at hr;obtain⟨ad,c',hX,hnc,hcap,qx0,_,hsub⟩:=Ci hr;obtain⟨hrun,hl1,hl2,hl3⟩:=pS (P:=P) (w:=w) hρ h2 h3 h4 hb hnc (U3 n) hhi true;obtain⟨hcl,hat⟩:=BB qxj;refine aY s (hex _ (hsl (some ad) n c' l hh _ hX hrun)) (.pure ?_);rw [Option.map_some,E8];have hml:=Da mx (c':=c') (m:=m) (by omega);refine hsub cs' (l*es) (hh - l) _ _ _ (fun j=>?_) (fun hne=>?_) (fun hne=>?_) (by omega) (fun c hc=>?_)
      ·split
       ·exact hat j (by omega)
       ·exact Ut (by omega)
      ·have hlt:l < hh:=by
        rcases Nat.lt_or_ge l hh with h'|h'
        ·exact h'
        ·exfalso;apply hne;apply List.eq_nil_of_length_eq_zero;rw [hcl];simp only [Nat.mul_eq,Nat.sub_eq];rw [show hh - l=0 by omega,Nat.zero_mul]
       have qxK:cs≠[]:=by rintro rfl;have:=(iu qxj).1;apply hne;apply List.eq_nil_of_length_eq_zero;rw [hcl];simp only [List.length_nil] at this;simp only [Nat.mul_eq,Nat.sub_eq] at this ⊢;omega
       rw [if_neg (by omega),za ad (qx0 qxK),Addr.add_lit]
      ·rintro rfl;have:=(iu qxj).1;apply hne;apply List.eq_nil_of_length_eq_zero;rw [hcl];simp only [List.length_nil] at this;simp only [Nat.mul_eq,Nat.sub_eq] at this ⊢;omega
      ·cases mx with
       |none=>
        cases cap with
        |none=>cases hc
        |some c0=>cases hc;simp only [kT];rw [hcap c0 rfl];rfl
       |some q=>cases hc;rfl
     ·cases hv
   ·cases hv
  ·rename_i id g off es' len cap ex hx;simp only [cond_eq_ite,UQ] at hv;split at hv
   ·rename_i hes;subst hes;split at hv
    ·cases hv
    ·rename_i l hh m hb;cases hv;rw [hx] at hr;obtain⟨b,base,ad,c',hX,hp1,hlc,hcc,qxS,had⟩:=fu hr;obtain⟨hrun,hl1,hl2,hl3⟩:=pS (P:=P) (w:=w) hρ h2 h3 h4 hb hcc hlc hhi true;refine aY s (hex _ (hsl (some ad) len c' l hh _ hX hrun)) ?_;rw [Option.map_some,E8];have hcm:=Da mx (c':=c') (m:=m) (by omega);refine .ref id g _ es' _ _ _ b base _ _ hp1 (by simp only [Nat.sub_eq];omega) (by simp only [Nat.sub_eq];omega) (fun hx=>?_) (fun h0=>?_)
     ·cases mx with
      |none=>have h8:=Az hb;simp only [kT] at hx ⊢;rw [h8,qxS hx];rfl
      |some q=>rfl
     ·have hne:kT mx c' m≠l:=by omega
      rw [if_neg hne];obtain⟨rfl,c,e',fr,hc1,hc2⟩:=had (by omega);refine⟨by rw [Addr.add_lit];simp only [Nat.mul_eq,Nat.add_eq,Nat.add_assoc],c,e',fr,hc1,?_⟩;have h8:(kT mx c' m - l)*es'+l*es'<=c'*es':=by rw [←Nat.add_mul];exact Nat.mul_le_mul_right _ (by omega)
      simp only [Nat.mul_eq,Nat.add_eq];omega
   ·cases hv
  ·cases hv
 ·cases hm
end
end Go.Ax
namespace Go.Ax
section
variable {top:Nat} {P:Program} {φ:gW} {K:Nat->Prop} {h:bz} {nx:Nat} {w:World} {ρ:aR->AV} {ρc:Operand->Value} {o:Oper}
theorem vr (s:ck top φ K h nx w):c7 top φ K h nx w φ K h nx w.drew:=
 ⟨fun _ _ _ h=>h,fun _ h=>h,s.drew,(Ext.refl _ w).drew,fun _ h=>.inl h,fun _ h=>.inl h,fun _ _ _ h=>.inl h,fun _ h=>.inl h,U3 _⟩
theorem s_ (P:Program) {b o:Nat} {c:Array Value} {e:TypeId} (hb:w.heap[b]?=some (.cells c e (0,0))) (vs:List Value) (hfit:o+vs.length<=c.size) (h1:∀u∈vs,u.oneCell'=true) :
  w.setCells b o vs=w.setRow b (c.toList.take o++vs++c.toList.drop (o+vs.length)).toArray:=by
 have hcell:∀j,j < vs.length->w.cell? ⟨b,o+j,none⟩=c[o+j]?:=fun j _=>nv hb
 have A:=run_storeCells_cells (P:=P) b o vs 0 w (fun j hj=>by rw [Nat.add_zero,hcell j hj,Array.getElem?_eq_getElem (by omega)];rfl) (fun j hj=>by simp [World.frozen?,hb]) h1
 have B:=run_storeCells_at P b o e vs 0 c w hb (by omega) h1;rw [A] at B;simp only [Nat.add_zero] at B;injection B
theorem kj {news:List Value} {cs:List AV} (hl:cs.length=news.length) (hr:∀(j:Nat) (y:AV),cs[j]?=some y->y.one=true/\∃u,news[j]?=some u/\ax φ K w y u):∀u∈news,u.oneCell'=true:=by intro u hu;obtain⟨j,hj,rfl⟩:=List.getElem_of_mem hu;obtain⟨r1,u',r2,r3⟩:=hr j _ (Un (by omega));rw [Un hj] at r2;cases r2;exact DN r3 r1
theorem CO {cs:List AV} {n:Nat} {cap:Option Nat} {ad:Addr} (hK:cs≠[]->ad.spot=none/\K ad.block) (hc:∀(j:Nat) (a:AV),cs[j]?=some a->a.one=true/\∃v,w.cell? ⟨ad.block,ad.off+j,none⟩=some v/\fY K w a v) :
  ∃news:List Value,cs.length=news.length/\(∀j u,news[j]?=some u->w.cell? (ad.add j)=some u)/\(∀(j:Nat) (y:AV),cs[j]?=some y->y.one=true/\∃u,news[j]?=some u/\ax φ K w y u):=by
 refine⟨(List.range cs.length).map fun j=>(w.cell? ⟨ad.block,ad.off+j,none⟩).getD undef,by simp,fun j u hu=>?_,fun j y hy=>?_⟩
 ·have hj:j < cs.length:=by
   rcases Nat.lt_or_ge j cs.length with h'|h'
   ·exact h'
   ·rw [Ut (by simpa using h')] at hu;cases hu
  have hne:cs≠[]:=by rintro rfl;simp at hj
  obtain⟨_,v,r2,_⟩:=hc j _ (Un hj);rw [za ad (hK hne).1,Addr.add_lit,r2];simp [hj,r2] at hu;rw [hu]
 ·have hj:j < cs.length:=by
   rcases Nat.lt_or_ge j cs.length with h'|h'
   ·exact h'
   ·rw [Ut h'] at hy;cases hy
  obtain⟨r1,v,r2,r3⟩:=hc j y hy;exact⟨r1,v,by simp [hj,r2],.pure r3⟩
theorem k8 (s:ck top φ K h nx w) {es m:Nat} {src:Src} {x:AV} {X:Value} (hs:dU es x=some (m,src)) (r:ax φ K w x X) {a:List AV} (hf:eC h src.q=some a) :
  ∃(news:List Value) (ao:Option Addr) (c':Nat),X=.slice ao m c'/\m<=c'/\(src.cs a).length=m*es/\(src.cs a).length=news.length/\(ao=none->m=0)/\
   (∀ad,ao=some ad->∀j u,news[j]?=some u->w.cell? (ad.add j)=some u)/\(∀(j:Nat) (y:AV),(src.cs a)[j]?=some y->y.one=true/\∃u,news[j]?=some u/\ax φ K w y u):=by
 unfold dU at hs;split at hs
 ·cases hs;rw [dw r];exact⟨[],none,0,rfl,U3 _,by simp [Src.cs],rfl,fun _=>rfl,fun _ h=>(by cases h),fun j y hy=>by simp [Src.cs] at hy⟩
 ·simp only [cond_eq_ite,UQ] at hs;split at hs
  ·rename_i hl;cases hs;obtain⟨ad,c',rfl,h1,_,h3,h4⟩:=jf r;obtain⟨news,n1,n2,n3⟩:=CO (φ:=φ) (n:=0) (cap:=none) h3 h4;exact⟨news,some ad,c',rfl,h1,hl.symm,n1,fun h=>(by cases h),fun ad' h=>(by cases h;exact n2),n3⟩
  ·cases hs
 ·rename_i id g off es' len cap ex;simp only [cond_eq_ite,UQ] at hs;split at hs
  ·rename_i hes;subst hes;cases hs;obtain⟨b,base,ad,c',rfl,hp1,hlc,hcc,qxS,had⟩:=fu r;obtain⟨b1,qxa,c,e,h1,h2,h3,h4,h5⟩:=jo s hf;rw [hp1] at h1;cases h1;have hlen:=lJ c (base+off) (Nat.mul m es');simp only [Nat.mul_eq] at h3 h4 hlen ⊢;have hb:∀j (y:AV),a[j]?=some y->j < m*es':=by
    intro j y hy;rcases Nat.lt_or_ge j a.length with h'|h'
    ·omega
    ·rw [Ut h'] at hy;cases hy
   refine⟨sn c (base+off) (m*es'),some ad,c',rfl,by omega,h4,h4.trans hlen.symm,fun h=>(by cases h),fun ad' h j u hu=>?_,fun j y hy=>?_⟩
   ·cases h;have hj:j < m*es':=by
     rcases Nat.lt_or_ge j (m*es') with h'|h'
     ·exact h'
     ·rw [Ut (by omega)] at hu;cases hu
    have hne:c'≠0:=by
     rintro rfl;have:m=0:=by omega
     subst this;omega
    obtain⟨rfl,_⟩:=had hne;rw [Addr.add_lit,nv h2,←iX c _ _ j hj (by omega),hu]
   ·obtain⟨r1,u,r2,r3⟩:=h5 j y hy;exact⟨r1,u,by rw [iX c _ _ j (hb j y hy) (by have:=hb j y hy;omega)];exact r2,r3⟩
  ·cases hs
 ·cases hs
theorem uS {es:Nat} {tx e':TypeId} (hk:P.underlying tx=some (.slice e')) {m c':Nat} {ao:Option Addr} {news:List Value} (hl:news.length=m*es) (h0:ao=none->m=0)
  (hn:∀ad,ao=some ad->∀j u,news[j]?=some u->w.cell? (ad.add j)=some u) (h1:∀u∈news,u.oneCell'=true):Go.Src P es tx (.slice ao m c') m news w:=by
 cases ao with
 |none=>have hm:=h0 rfl;subst hm;obtain rfl:news=[]:=List.eq_nil_of_length_eq_zero (by omega);exact Go.Src.ofNil w hk c'
 |some ad=>exact Go.Src.ofSlice w hk ad m c' news hl (hn ad rfl) h1
def Mb (P:Program) (o:Oper) (es bytes:Nat) (x y:aR):Bool:=match o.op with
 |.call {callee:=.builtin .append,args:=⟨[x',y']⟩,argTypes:=⟨[t,tx]⟩}=>bV x' x&&bV y' y&&(ga P tx fun d=>match d with|.slice _=>true|_=>false)&&
   (ga P t fun d=>match d with
    |.slice e=>tInfo P e fun i=>Nat.beq i.size es&&Nat.beq i.bytes bytes&&(match i.zero with|some z=>Nat.beq z.cells.size es|none=>false)
    |_=>false)
 |_=>false
theorem Ib {v:AV} {V:Value} (hv:Bn v=true) (r:ax φ K w v V):∃ao l c,V=.slice ao l c/\l<=c:=by
 unfold Bn at hv;split at hv
 ·exact⟨none,0,0,dw r,U3 _⟩
 ·obtain⟨ad,c',rfl,h1,_⟩:=jf r;exact⟨_,_,_,rfl,h1⟩
 ·obtain⟨b,base,ad,c',rfl,_,h1,h2,_⟩:=fu r;exact⟨_,_,_,rfl,by omega⟩
 ·cases hv
theorem Dt {es:Nat} {src:Src} {x:AV} {X:Value} (hs:dU es x=some (0,src)) (r:ax φ K w x X):∃ao c',X=.slice ao 0 c':=by
 unfold dU at hs;split at hs
 ·exact⟨none,0,dw r⟩
 ·simp only [cond_eq_ite,UQ] at hs;split at hs
  ·cases hs;obtain⟨ad,c',rfl,_⟩:=jf r;exact⟨_,_,rfl⟩
  ·cases hs
 ·simp only [cond_eq_ite,UQ] at hs;split at hs
  ·cases hs;obtain⟨b,base,ad,c',rfl,_⟩:=fu r;exact⟨_,_,rfl⟩
  ·cases hs
 ·cases hs
theorem wv {cs xs:List AV} {olds news:List Value} (h1:cs.length=olds.length) (h2:xs.length=news.length) (z:Array Value) (w':World)
  (hr1:∀(j:Nat) (y:AV),cs[j]?=some y->y.one=true/\∃u,olds[j]?=some u/\ax φ K w' y u) (hr2:∀(j:Nat) (y:AV),xs[j]?=some y->y.one=true/\∃u,news[j]?=some u/\ax φ K w' y u) :
  ∀(j:Nat) (y:AV),(cs++xs)[j]?=some y->y.one=true/\∃u,((olds++news).toArray++z)[j]?=some u/\ax φ K w' y u:=by
 intro j y hy;have hj:j < (cs++xs).length:=by
  rcases Nat.lt_or_ge j (cs++xs).length with h'|h'
  ·exact h'
  ·rw [Ut h'] at hy;cases hy
 have hj2:j < cs.length+xs.length:=by simpa using hj
 rw [Array.getElem?_append_left (by simp;omega),List.getElem?_toArray];by_cases hlo:j < cs.length
 ·rw [Uq hlo] at hy;rw [Uq (by omega)];exact hr1 j y hy
 ·rw [Ur (by omega)] at hy;rw [Ur (by omega),←h1];exact hr2 _ y hy
theorem t_ {t tx ty e:TypeId} {i:TypeInfo} {z:Value} {es bytes:Nat} (ht:P.underlying t=some (.slice e)) (hi:P.info? e=some i) (hz:i.zero=some z) (hes:i.size=es) (hby:i.bytes=bytes) (hzs:z.cells.size=es)
  {ao base:Option Addr} {m c' sLen sCap:Nat} {olds news:List Value} (hol:olds.length=sLen*es) (hold:(Builtin.firstCells es sLen (.slice base sLen sCap)).run P w.drew=.ok olds.toArray w.drew)
  (hs:Go.Src P es tx (.slice ao m c') m news w) (hg:sCap < sLen+m) (hb1:(sLen+m)*bytes<=most) (hb2:sLen+m<=most) :
  ∃cap' zz,(Builtin.append_ #[t,tx] ty #[.slice base sLen sCap,.slice ao m c']).run P w=.ok (.slice (some ⟨w.heap.size,0,none⟩) (sLen+m) cap') (w.drew.alloc (.cells ((olds++news).toArray++zz) e))/\sLen+m<=cap'/\((olds++news).toArray++zz).size=cap'*es:=by
 subst hes hby;simp only [most] at hb1 hb2;have hrun:=run_append_grow_src (P:=P) w t tx ty e i z ht hi hz base sLen sCap olds hold _ m news hs hg (by omega) (growslice_fits hg (by omega));have hge:=grownCap_ge w (sLen+m) sCap e;refine⟨_,_,hrun,hge,?_⟩;have hnl:=hs.newsLen;simp only [Array.size_append,List.size_toArray,Uz,size_zeroCells,hol,hnl,hzs];rw [←Nat.add_mul,←Nat.add_mul];congr 1;omega
theorem BE (s:ck top φ K h nx w) (qxe:nx < top) {es len:Nat} {cs xs:List AV} {olds news:List Value} {e:TypeId} {cap':Nat} {zz:Array Value} (h1:cs.length=olds.length) (h2:xs.length=news.length)
  (hr1:∀(j:Nat) (y:AV),cs[j]?=some y->y.one=true/\∃u,olds[j]?=some u/\ax φ K w y u) (hr2:∀(j:Nat) (y:AV),xs[j]?=some y->y.one=true/\∃u,news[j]?=some u/\ax φ K w y u)
  (hrun:(execOp ρc o).run P w=.ok (.value (.slice (some ⟨w.heap.size,0,none⟩) len cap')) (w.drew.alloc (.cells ((olds++news).toArray++zz) e))) (hle:len<=cap') (hsz:((olds++news).toArray++zz).size=cap'*es) :
  ∃V w' φ' K',((execOp ρc o).run P w=.ok (.value V) w'\/((execOp ρc o).run P w=.ok .skip w'/\V=undef))/\c7 top φ K h nx w φ' K' (BW h nx (some (.row 0 (cs++xs)))) (nx+1) w'/\ax φ' K' w' (.ref nx 0 0 es len len false) V:=by
 have gd:=vr s;have hcell:=wv h1 h2 zz w.drew (fun j y hy=>let ⟨a1,u,a2,a3⟩:=hr1 j y hy;⟨a1,u,a2,gd.val s a3⟩) (fun j y hy=>let ⟨a1,u,a2,a3⟩:=hr2 j y hy;⟨a1,u,a2,gd.val s a3⟩);have g:=CR s.drew qxe (cs++xs) ((olds++news).toArray++zz) e (by simp;omega) (fun j a ha=>(hcell j a ha).1) (fun j a ha=>(hcell j a ha).2);refine⟨_,_,_,_,.inl hrun,gd.trans g,?_⟩;exact .ref nx 0 0 es len len false w.heap.size 0 ⟨w.heap.size,0,none⟩ cap' (by simp) (U3 _) hle (fun h=>by cases h) (fun _=>⟨rfl,_,e,(0,0),mq w.drew _,by omega⟩)
theorem Gi (s:ck top φ K h nx w) {id g off b base:Nat} {cells xs:List AV} {news:List Value} {c:Array Value} {e:TypeId} (hh:h id=some (.row g cells)) (hb:φ id g=some (b,base)) (hc:w.heap[b]?=some (.cells c e (0,0)))
  (qxp:∀(j:Nat) (a:AV),cells[j]?=some a->a.one=true/\∃v,c[base+j]?=some v/\ax φ K w a v) (hoff:off<=cells.length) (h2:xs.length=news.length) (hfit:base+cells.length+news.length<=c.size)
  (hr2:∀(j:Nat) (y:AV),xs[j]?=some y->y.one=true/\∃u,news[j]?=some u/\ax φ K w y u) :
  c7 top φ K h nx w (fun i gg=>if i=id/\gg=g+1 then some (b,base+off) else φ i gg) K (BW h id (some (.row (g+1) (cells.drop off++xs)))) nx (w.setRow b (c.toList.take (base+cells.length)++news++c.toList.drop (base+cells.length+news.length)).toArray):=by
 have hsize:(c.toList.take (base+cells.length)++news++c.toList.drop (base+cells.length+news.length)).toArray.size=c.size:=by simp;omega
 refine yN s hh hb (g+1) (cells.drop off++xs) b (base+off) _ e (fun i gg=>rfl) (.inr (Nat.lt_succ_self g)) (.inl rfl) (setRow_heap w b c _ e (0,0) hc) (fun i hi hne=>setRow_other w b i _ hne) (by simp [World.setRow]) ?_ (fun a=>rj w hc _ a) rfl rfl rfl (by rw [hsize];simp;omega) ?_
 ·intro c1 e1 fr1 h1;rw [hc] at h1;cases h1;exact⟨rfl,rfl,hsize⟩
 ·intro j a ha;simp only [List.getElem?_toArray];by_cases hlo:j < cells.length - off
  ·rw [Uq (by simpa using hlo),Uv] at ha;obtain⟨h1,v,h3,h4⟩:=qxp _ a ha;refine⟨h1,v,?_,h4⟩;rw [Uq (by simp;omega),Uq (by simp;omega),List.getElem?_take_of_lt (by omega),Array.getElem?_toList,←h3];congr 1;omega
  ·rw [Ur (by simp;omega),UB] at ha;obtain⟨h1,u,h3,h4⟩:=hr2 _ a ha;refine⟨h1,u,?_,h4⟩;have hj:j - (cells.length - off) < news.length:=(Uo.1 h3).1;rw [Uq (by simp;omega),Ur (by simp;omega),←h3];congr 1;simp only [UA,Array.length_toList];omega
theorem IS (s:ck top φ K h nx w) {id g b base:Nat} {cells cs:List AV} {cn:Array Value} {c:Array Value} {e e':TypeId} (hh:h id=some (.row g cells)) (hb:φ id g=some (b,base)) (hc:w.heap[b]?=some (.cells c e (0,0)))
  (hsz:cs.length<=cn.size) (hr:∀(j:Nat) (y:AV),cs[j]?=some y->y.one=true/\∃u,cn[j]?=some u/\ax φ K w y u) :
  c7 top φ K h nx w (fun i gg=>if i=id/\gg=g+1 then some (w.heap.size,0) else φ i gg) K (BW h id (some (.row (g+1) cs))) nx (w.drew.alloc (.cells cn e')):=by
 refine yN s hh hb (g+1) cs w.heap.size 0 cn e' (fun i gg=>rfl) (.inr (Nat.lt_succ_self g)) (.inr rfl) (mq w.drew _) (fun i hi hne=>vU w.drew _ hi) (by simp) ?_ (fun a=>RowKit.frozen?_alloc_cells w.drew cn e' a) rfl rfl rfl (by omega) ?_
 ·intro c1 e1 fr1 h1;rw [Array.getElem?_eq_none (U3 _)] at h1;cases h1
 ·intro j a ha;rw [Nat.zero_add];exact hr j a ha
end
end Go.Ax
namespace Go.Ax
section
variable {top:Nat} {P:Program} {φ:gW} {K:Nat->Prop} {h:bz} {nx:Nat} {w:World} {ρ:aR->AV} {ρc:Operand->Value} {o:Oper}
theorem uV {q:Option Di} {k:List AV->Option fZ->Option Out} {v:AV} {h':bz} {nx':Nat} (hr:uW (.look q none k) h nx=some (v,h',nx')) :
  ∃a out,eC h q=some a/\k a none=some out/\(match out.new with
   |some ob=>some (out.val nx,BW (wS h none out.obj) nx (some ob),nx+1)
   |none=>some (out.val nx,wS h none out.obj,nx))=some (v,h',nx'):=by
 simp only [uW,jR] at hr;cases hq:eC h q with
 |none=>rw [hq] at hr;cases hr
 |some a=>
  rw [hq] at hr;simp only at hr;cases hk:k a none with
  |none=>rw [hk] at hr;cases hr
  |some out=>rw [hk] at hr;exact⟨a,out,rfl,hk,hr⟩
theorem Oq (s:ck top φ K h nx w) (hρ:∀x y,bV x y=true->ax φ K w (ρ y) (ρc x)) {es bytes:Nat} {x y:aR} (hm:Mb P o es bytes x y=true) {p:bg} (hp:qW es bytes (ρ x) (ρ y)=some p):Sound top P φ K h nx w ρc o p:=by
 unfold Mb at hm;split at hm
 ·rename_i x' y' t tx ho;simp only [UN] at hm;obtain⟨⟨⟨xh,hmy⟩,htx⟩,ht⟩:=hm;have hrx:=hρ _ _ xh;have hry:=hρ _ _ hmy;obtain⟨dx,hdx,qjK⟩:=bP htx;have hkx:∃e',P.underlying tx=some (.slice e'):=by cases dx<;>first|exact⟨_,hdx⟩|cases qjK
  obtain⟨e',hkx⟩:=hkx;obtain⟨dt,hdt,qjt⟩:=bP ht;have hkt:∃e,P.underlying t=some (.slice e)/\(tInfo P e fun i=>Nat.beq i.size es&&Nat.beq i.bytes bytes&&(match i.zero with|some z=>Nat.beq z.cells.size es|none=>false))=true:=by cases dt<;>first|exact⟨_,hdt,qjt⟩|cases qjt
  obtain⟨e,hkt,hie⟩:=hkt;obtain⟨i,hi,qjo⟩:=dY hie;simp only [UN,UQ] at qjo;obtain⟨⟨hes,hby⟩,hz2⟩:=qjo;have hzz:∃z,i.zero=some z/\z.cells.size=es:=by
   cases hz:i.zero with
   |none=>rw [hz] at hz2;cases hz2
   |some z=>rw [hz] at hz2;exact⟨z,rfl,by simpa [UQ] using hz2⟩
  obtain⟨z,hz,hzs⟩:=hzz;have qxg:∀{V:Value} {w':World},(Builtin.append_ #[t,tx] o.type #[ρc x',ρc y']).run P w=.ok V w'->(execOp ρc o).run P w=.ok (.value V) w':=fun hr=>gK (x:=Builtin.append_ #[t,tx] o.type #[ρc x',ρc y']) ho (fun _=>by simp [builtin]) hr
  unfold qW at hp;split at hp
  ·cases hp
  ·rename_i m src hsrc;simp only [cond_eq_ite,UQ,UN,UR,US] at hp;split at hp
   ·rename_i hm0;subst hm0;split at hp
    ·rename_i hsl;cases hp;obtain⟨ao,l,c,hX,hle⟩:=Ib hsl hrx;obtain⟨ao',c',hY⟩:=Dt hsrc hry;refine aY s (qxg ?_) hrx;rw [hX,hY];refine run_append_nothing w t tx o.type e i hkt hi ao l c hle _ ?_;exact uS hkx (by simp) (fun _=>rfl) (fun _ _ j u hu=>by simp at hu) (fun u hu=>by cases hu)
    ·cases hp
   ·rename_i hm0;split at hp
    ·rename_i hx;rw [hx] at hrx;split at hp
     ·rename_i hb;cases hp;intro v h' nx' hrun qxe;obtain⟨a,out,hf,hk,hend⟩:=uV hrun;cases hk;cases hend;obtain⟨news,ao,c',hY,hmc,hl1,hl2,hao,hn,hr2⟩:=k8 s hsrc hry hf;have hs:=uS (w:=w) (c':=c') hkx (hl2.symm.trans hl1) hao hn (kj hl2 hr2);have hX:=dw hrx;simp only [Nat.mul_eq] at hb;obtain⟨cap',zz,g1,g2,g3⟩:=t_ (ty:=o.type) (sLen:=0) (sCap:=0) (base:=none) (olds:=[]) hkt hi hz hes hby hzs (by simp) (run_firstCells_none w.drew es 0 0 0) hs (by omega) (by rw [Nat.zero_add];exact hb.1) (by omega);rw [Nat.zero_add] at g1 g2;exact BE s qxe (cs:=[]) (olds:=[]) rfl hl2 (fun j y hy=>by simp at hy) hr2 (qxg (by rw [hX,hY];exact g1)) g2 g3
     ·cases hp
    ·rename_i cs n c hx;rw [hx] at hrx;split at hp
     ·rename_i hb;cases hp;simp only [Nat.mul_eq,Nat.add_eq] at hb;obtain⟨⟨⟨hb1,hb2⟩,hb3⟩,hb4⟩:=hb;intro v h' nx' hrun qxe;obtain⟨a,out,hf,hk,hend⟩:=uV hrun;cases hk;cases hend;obtain⟨news,ao,c',hY,hmc,hl1,hl2,hao,hn,hr2⟩:=k8 s hsrc hry hf;have hs:=uS (w:=w) (c':=c') hkx (hl2.symm.trans hl1) hao hn (kj hl2 hr2);obtain⟨ad,c'',hX,hn1,hcap,hK1,hc1⟩:=jf hrx;obtain⟨olds,o1,o2,o3⟩:=CO (φ:=φ) (n:=0) (cap:=none) hK1 hc1;have hcc:=hcap c rfl;subst hcc;obtain⟨cap',zz,g1,g2,g3⟩:=t_ (ty:=o.type) (sLen:=n) (sCap:=c'') (base:=some ad) (olds:=olds) hkt hi hz hes hby hzs (by omega) (run_firstCells_some w.drew es n ad n c'' olds (by omega) (by simpa using o2)) hs (by omega) hb3 hb4;exact BE s qxe o1 hl2 o3 hr2 (qxg (by rw [hX,hY];exact g1)) g2 g3
     ·cases hp
    ·rename_i id g off es' len cap ex hx;rw [hx] at hrx;split at hp
     ·rename_i hb;simp only [Nat.mul_eq,Nat.add_eq] at hb;obtain⟨⟨hb1,hb2⟩,hb3⟩:=hb;subst hb1;obtain⟨b,base,ad,c1,hX,hp1,hlc,hcc,qxS,had⟩:=fu hrx;cases hp;unfold y_;simp only [cond_eq_ite,UQ,UR];split
      ·rename_i hroom;simp only [Nat.add_eq] at hroom;intro v h' nx' hrun qxe;obtain⟨a,cells,out,hf,hh,hk,hend⟩:=lT hrun;split at hk
       ·rename_i cells' hov;cases hk;cases hend;obtain⟨news,ao,c',hY,hmc,hl1,hl2,hao,hn,hr2⟩:=k8 s hsrc hry hf;have h1:=kj hl2 hr2;have hs:=uS (w:=w) (c':=c') hkx (hl2.symm.trans hl1) hao hn h1;obtain⟨b1,qxa,c,e1,h5,h6,h7,h8⟩:=s.row id g cells hh;rw [hp1] at h5;cases h5;have hne:c1≠0:=by omega
        obtain⟨rfl,c2,e2,fr,h9,h10⟩:=had hne;rw [h6] at h9;cases h9;have hof:=(dR hov).1;simp only [Nat.mul_eq,Nat.add_eq] at hof hov;have qxs:base+off+len*es'+news.length<=c.size:=by omega
        have qxH:=run_append_room_src (P:=P) w t tx o.type e i hkt hi b (base+off) len c1 (.slice ao m c') m news (by rw [hes];exact hs) (by omega) (fun j hj=>by rw [nv h6,hes,Array.getElem?_eq_getElem (by omega)];rfl) (fun j hj=>by simp [World.frozen?,h6])
        rw [hes,s_ P h6 news qxs h1] at qxH;have hg:=qo s hh hp1 h6 h7 h8 hov news hl2.symm (fun j a v ha hv=>by obtain⟨_,u,q1,q2⟩:=hr2 j a ha;rw [q1] at hv;cases hv;exact q2) (fun j a ha=>(hr2 j a ha).1)
        rw [←Nat.add_assoc base off] at hg;refine⟨_,_,_,_,.inl (qxg (by rw [hX,hY];exact qxH)),hg,?_⟩;refine .ref id g off es' (len+m) cap ex b base _ c1 hp1 hroom (by omega) qxS (fun _=>⟨rfl,_,e1,(0,0),setRow_heap w b c _ e1 (0,0) h6,?_⟩);simp only [List.size_toArray,Uz,UA,UB,Array.length_toList];omega
       ·cases hk
      ·rename_i hroom;simp only [Nat.add_eq] at hroom;split
       ·rename_i hex;have hce:=qxS hex;intro v h' nx' hrun qxe;obtain⟨a,cells,out,hf,hh,hk,hend⟩:=lT hrun;split at hk
        ·rename_i cs qxj;cases hk;cases hend;obtain⟨news,ao,c',hY,hmc,hl1,hl2,hao,hn,hr2⟩:=k8 s hsrc hry hf;have hs:=uS (w:=w) (c':=c') hkx (hl2.symm.trans hl1) hao hn (kj hl2 hr2);have hf2:eC h (some ⟨id,g,off,len*es'⟩)=some cs:=by simp only [eC,hh,cond_eq_ite,UQ,if_true];exact qxj
         obtain⟨olds,ao2,c3,hX2,_,ho1,ho2,qjN,hn2,hro⟩:=k8 (src:=.w7 ⟨id,g,off,len*es'⟩) (es:=es') (m:=len) s (by simp [dU]) hrx hf2;rw [hX] at hX2;cases hX2;simp only [Src.cs] at ho1 ho2 hro;obtain⟨cap',zz,g1,g2,g3⟩:=t_ (ty:=o.type) (sLen:=len) (sCap:=c1) (base:=some ad) (olds:=olds) hkt hi hz hes hby hzs (by omega) (run_firstCells_some w.drew es' len ad len c1 olds (by omega) (by simpa using hn2 ad rfl)) hs (by omega) hb2 hb3;exact BE s qxe ho2 hl2 hro hr2 (qxg (by rw [hX,hY];exact g1)) g2 g3
        ·cases hk
       ·rename_i hex;intro v h' nx' hrun qxe;obtain⟨a,cells,out,hf,hh,hk,hend⟩:=lT hrun;split at hk
        ·rename_i qz8;simp only [Nat.mul_eq,Nat.add_eq] at qz8;cases hk;cases hend;obtain⟨news,ao,c',hY,hmc,hl1,hl2,hao,hn,hr2⟩:=k8 s hsrc hry hf;have h1:=kj hl2 hr2;have hs:=uS (w:=w) (c':=c') hkx (hl2.symm.trans hl1) hao hn h1;obtain⟨b1,qxa,c,e1,h5,h6,h7,h8⟩:=s.row id g cells hh;rw [hp1] at h5;cases h5;by_cases qxs:len+m<=c1
         ·have hne:c1≠0:=by omega
          obtain⟨rfl,c2,e2,fr,h9,h10⟩:=had hne;rw [h6] at h9;cases h9;have hmul:(len+m)*es'<=c1*es':=Nat.mul_le_mul_right _ qxs;rw [Nat.add_mul] at hmul;have qzg:base+off+len*es'+news.length<=c.size:=by omega
          have qxH:=run_append_room_src (P:=P) w t tx o.type e i hkt hi b (base+off) len c1 (.slice ao m c') m news (by rw [hes];exact hs) qxs (fun j hj=>by rw [nv h6,hes,Array.getElem?_eq_getElem (by omega)];rfl) (fun j hj=>by simp [World.frozen?,h6])
          rw [hes,s_ P h6 news qzg h1] at qxH;have hg:=Gi (off:=off) s hh hp1 h6 h8 (by omega) hl2 (by omega) hr2;rw [show base+cells.length=base+off+len*es' by omega] at hg;refine⟨_,_,_,_,.inl (qxg (by rw [hX,hY];exact qxH)),hg,?_⟩;refine .ref id (g+1) 0 es' (len+m) (len+m) false b (base+off) _ c1 (by simp) (U3 _) qxs (fun h=>by cases h) (fun _=>⟨rfl,_,e1,(0,0),setRow_heap w b c _ e1 (0,0) h6,?_⟩);simp only [List.size_toArray,Uz,UA,UB,Array.length_toList];omega
         ·have hf2:eC h (some ⟨id,g,off,len*es'⟩)=some (cells.drop off):=by simp only [eC,hh,cond_eq_ite,UQ,if_true];rw [dy,if_pos (by omega),UZ (by rw [UB];omega)]
          obtain⟨olds,ao2,c3,hX2,_,ho1,ho2,qjN,hn2,hro⟩:=k8 (src:=.w7 ⟨id,g,off,len*es'⟩) (es:=es') (m:=len) s (by simp [dU]) hrx hf2;rw [hX] at hX2;cases hX2;simp only [Src.cs] at ho1 ho2 hro;obtain⟨cap',zz,g1,g2,g3⟩:=t_ (ty:=o.type) (sLen:=len) (sCap:=c1) (base:=some ad) (olds:=olds) hkt hi hz hes hby hzs (by omega) (run_firstCells_some w.drew es' len ad len c1 olds (by omega) (by simpa using hn2 ad rfl)) hs (by omega) hb2 hb3;have hcell:=wv ho2 hl2 zz w hro hr2;refine⟨_,_,_,_,.inl (qxg (by rw [hX,hY];exact g1)),IS (e':=e) s hh hp1 h6 (by simp;omega) hcell,?_⟩;exact .ref id (g+1) 0 es' (len+m) (len+m) false w.heap.size 0 _ cap' (by simp) (U3 _) g2 (fun h=>by cases h) (fun _=>⟨rfl,_,e,(0,0),mq w.drew _,by omega⟩)
        ·cases hk
     ·cases hp
    ·cases hp
 ·cases hm
end
end Go.Ax
namespace Go.Ax
section
variable {top:Nat} {P:Program} {φ:gW} {K:Nat->Prop} {h:bz} {nx:Nat} {w:World} {ρ:aR->AV} {ρc:Operand->Value} {o:Oper}
theorem p9:ax φ K w dQ undef:=.pure (.iR [] #[] rfl (fun j a v ha=>by simp at ha))
theorem C5 {dT sT ty e:TypeId} {i:TypeInfo} {es:Nat} (hu:P.underlying dT=some (.slice e)) (hi:P.info? e=some i) (hes:i.size=es) (dn:Option Addr) (dLen dCap:Nat) (ao:Option Addr) (m c':Nat) (news:List Value)
  (hn:news.length=Nat.min m dLen*es) (h0:ao=none->m=0) (qxp:∀ad,ao=some ad->∀j u,news[j]?=some u->w.cell? (ad.add j)=some u) (w':World)
  (hst:∀ad,dn=some ad->(storeCells ad news).run P w=.ok () w') (hnone:dn=none->w'=w) :
  (Builtin.copy_ #[dT,sT] ty #[.slice dn dLen dCap,.slice ao m c']).run P w=.ok (goInt (Nat.min m dLen)) w':=by
 subst hes;have hfc:(Builtin.firstCells i.size (Nat.min m dLen) (.slice ao m c')).run P w=.ok news.toArray w:=by
  cases ao with
  |none=>have:=h0 rfl;subst this;obtain rfl:news=[]:=List.eq_nil_of_length_eq_zero (by rw [hn];simp);exact run_firstCells_none w _ _ _ _
  |some ad=>exact run_firstCells_some w _ _ ad _ _ news hn (qxp ad rfl)
 have hsz:(sizeOf e).run P w=.ok i.size w:=by simp [sizeOf,typeInfo,hi]
 cases dn with
 |none=>have:=hnone rfl;subst this;simp only [Builtin.copy_,Builtin.lenOf,Sem.run_bind,Result.andThen_ok,run_underlying hu,Sem.run_pure,hsz,hfc];simp [run_underlying hu,hsz,hfc]
 |some ad=>have:=hst ad rfl;simp [Builtin.copy_,Builtin.lenOf,run_underlying hu,hsz,hfc,this]
def L8 (P:Program) (o:Oper) (es:Nat) (x y:aR):Bool:=match o.op with
 |.call {callee:=.builtin .copy,args:=⟨[x',y']⟩,argTypes:=⟨[t,_]⟩}=>bV x' x&&bV y' y&&(EA P t es)
 |_=>false
theorem Ol (s:ck top φ K h nx w) (hρ:∀x y,bV x y=true->ax φ K w (ρ y) (ρc x)) {es:Nat} {x y:aR} (hm:L8 P o es x y=true) {p:bg} (hp:C3 es (ρ x) (ρ y)=some p):Sound top P φ K h nx w ρc o p:=by
 unfold L8 at hm;split at hm
 ·rename_i x' y' t tx ho;simp only [UN] at hm;obtain⟨⟨xh,hmy⟩,ht⟩:=hm;have hrx:=hρ _ _ xh;have hry:=hρ _ _ hmy;obtain⟨e,hu,hse⟩:=rU ht;obtain⟨i,hi,hes⟩:=dY hse;rw [UQ] at hes;have qxg:∀{V:Value} {w':World},(Builtin.copy_ #[t,tx] o.type #[ρc x',ρc y']).run P w=.ok V w'->(execOp ρc o).run P w=.ok (.value V) w':=fun hr=>gK (x:=Builtin.copy_ #[t,tx] o.type #[ρc x',ρc y']) ho (fun _=>by simp [builtin]) hr
  unfold C3 at hp;split at hp
  ·cases hp
  ·rename_i m src hsrc;split at hp
   ·rename_i hx;cases hp;rw [hx] at hrx;have hX:=dw hrx;have hY:∃ao c',ρc y'=.slice ao m c'/\(ao=none->m=0):=by
     unfold dU at hsrc;split at hsrc
     ·rename_i hy;cases hsrc;rw [hy] at hry;exact⟨none,0,dw hry,fun _=>rfl⟩
     ·rename_i hy;simp only [cond_eq_ite,UQ] at hsrc;split at hsrc
      ·cases hsrc;rw [hy] at hry;obtain⟨ad,c',hY,_⟩:=jf hry;exact⟨_,_,hY,fun h=>by cases h⟩
      ·cases hsrc
     ·rename_i hy;simp only [cond_eq_ite,UQ] at hsrc;split at hsrc
      ·cases hsrc;rw [hy] at hry;obtain⟨b,base,ad,c',hY,_⟩:=fu hry;exact⟨_,_,hY,fun h=>by cases h⟩
      ·cases hsrc
     ·cases hsrc
    obtain⟨ao,c',hY,h0⟩:=hY;refine aY s (V:=goInt 0) (qxg ?_) (.pure (.int _ _));rw [hX,hY];have:=C5 (P:=P) (w:=w) (sT:=tx) (ty:=o.type) hu hi hes none 0 0 ao m c' [] (by simp) h0 (fun ad _ j u hj=>by simp at hj) w (fun ad h=>by cases h) (fun _=>rfl);simpa using this
   ·rename_i id g off es' len cap ex hx;simp only [cond_eq_ite,UQ] at hp;split at hp
    ·rename_i qz7;subst qz7;cases hp;rw [hx] at hrx;obtain⟨b,base,ad,c1,hX,hp1,hlc,hcc,qxS,had⟩:=fu hrx;intro v h' nx' hrun qxe;obtain⟨a,cells,out,hf,hh,hk,hend⟩:=lT hrun;split at hk
     ·rename_i cs qzJ;split at hk
      ·rename_i cells' hov;cases hk;cases hend;obtain⟨news,ao,c',hY,hmc,hl1,hl2,hao,hn,hr2⟩:=k8 s hsrc hry hf;rw [uc] at qzJ;split at qzJ
       ·rename_i hle;cases qzJ;simp only [Nat.mul_eq] at hle hov ⊢;have hr3:∀(j:Nat) (y:AV),((src.cs a).take (min m len*es'))[j]?=some y->y.one=true/\∃u,(news.take (min m len*es'))[j]?=some u/\ax φ K w y u:=by
         intro j y hy;have hj:j < min m len*es':=by
          rcases Nat.lt_or_ge j (min m len*es') with h'|h'
          ·exact h'
          ·rw [Ut (by simp;omega)] at hy;cases hy
         rw [List.getElem?_take_of_lt hj] at hy ⊢;exact hr2 j y hy
        have hl3:((src.cs a).take (min m len*es')).length=(news.take (min m len*es')).length:=by simp only [UA,hl2]
        have hl4:(news.take (min m len*es')).length=min m len*es':=by rw [UA];omega
        have h1:=kj hl3 hr3;obtain⟨b1,qxa,c,e1,h5,h6,h7,h8⟩:=s.row id g cells hh;rw [hp1] at h5;cases h5;have hof:=(dR hov).1;have hst:=run_storeCells_at P b (base+off) e1 (news.take (min m len*es')) 0 c w h6 (by omega) h1;simp only [Nat.add_zero] at hst;have hstep:(Builtin.copy_ #[t,tx] o.type #[ρc x',ρc y']).run P w=.ok (goInt (Nat.min m len)) (w.setRow b (c.toList.take (base+off)++news.take (min m len*es')++c.toList.drop (base+off+(news.take (min m len*es')).length)).toArray):=by
         rw [hX,hY];refine C5 hu hi hes (some ad) len c1 ao m c' (news.take (min m len*es')) hl4 hao (fun ad' h j u hj=>?_) _ (fun ad' h=>?_) (fun h=>by cases h)
         ·have hj2:j < min m len*es':=by
           rcases Nat.lt_or_ge j (min m len*es') with h'|h'
           ·exact h'
           ·rw [Ut (by omega)] at hj;cases hj
          rw [List.getElem?_take_of_lt hj2] at hj;exact hn ad' h j u hj
         ·cases h;by_cases hc0:c1=0
          ·have hl0:len=0:=by omega
           have qzo:news.take (min m len*es')=[]:=List.eq_nil_of_length_eq_zero (by rw [hl4,hl0];simp);rw [qzo];simp only [List.append_nil,List.length_nil,Nat.add_zero,List.take_append_drop,Array.toArray_toList];rw [setRow_self w b c e1 (0,0) h6];rfl
          ·obtain⟨rfl,_⟩:=had hc0;exact hst
        refine⟨_,_,φ,K,.inl (qxg hstep),qo s hh hp1 h6 h7 h8 hov (news.take (min m len*es')) hl3.symm (fun j a v ha hv=>by obtain⟨_,u,q1,q2⟩:=hr3 j a ha;rw [q1] at hv;cases hv;exact q2) (fun j a ha=>(hr3 j a ha).1),.pure ?_⟩
        have:goInt (Nat.min m len)=.int .i64 ((min m len:Nat):Int):=rfl;rw [this,show (min (m:Int) (len:Int))=((min m len:Nat):Int) by omega];exact .int _ _
       ·cases qzJ
      ·cases hk
     ·cases hk
    ·cases hp
   ·cases hp
 ·cases hm
def L9 (P:Program) (o:Oper) (es:Nat) (zero:List AV) (x:aR):Bool:=match o.op with
 |.call {callee:=.builtin .clear,args:=⟨[x']⟩,argTypes:=⟨[t]⟩}=>bV x' x&&(ga P t fun d=>match d with|.slice e=>lR P e es&&Nat.blt 0 es&&Nat.beq zero.length es&&yh P e zero|_=>false)
 |_=>false
theorem Om (s:ck top φ K h nx w) (hρ:∀x y,bV x y=true->ax φ K w (ρ y) (ρc x)) {es:Nat} {zero:List AV} {x:aR} (hm:L9 P o es zero x=true) {p:bg} (hp:JG ρ es zero x=some p):Sound top P φ K h nx w ρc o p:=by
 unfold L9 at hm;split at hm
 ·rename_i x' t ho;simp only [UN] at hm;obtain⟨xh,ht⟩:=hm;have hrx:=hρ _ _ xh;obtain⟨d,hd,hd2⟩:=bP ht;have hk:∃e,P.underlying t=some (.slice e)/\(lR P e es&&Nat.blt 0 es&&Nat.beq zero.length es&&yh P e zero)=true:=by cases d<;>first|exact⟨_,hd,hd2⟩|cases hd2
  obtain⟨e,hu,hk⟩:=hk;simp only [UN,US,UQ] at hk;obtain⟨⟨⟨_,hpos⟩,hzl⟩,hz⟩:=hk;obtain⟨z,z1,z2,z3,z4⟩:=qi hz K w;have qxg:∀{V:Value} {w':World},(Builtin.clear_ #[t] o.type #[ρc x']).run P w=.ok V w'->(execOp ρc o).run P w=.ok (.value V) w':=fun hr=>gK (x:=Builtin.clear_ #[t] o.type #[ρc x']) ho (fun _=>by simp [builtin]) hr
  have hV:∀{φ':gW} {K':Nat->Prop} {w':World},ax φ' K' w' dQ (.tuple #[]):=.pure (.iR [] #[] rfl (fun j a v ha=>by simp at ha));unfold JG at hp;split at hp
  ·rename_i hx;cases hp;rw [hx] at hrx;refine aY s (V:=.tuple #[]) (qxg ?_) hV;rw [dw hrx];simp [Builtin.clear_,run_underlying hu]
  ·rename_i id g off es' len cap ex hx;simp only [cond_eq_ite,UQ] at hp;split at hp
   ·rename_i qz7;subst qz7;cases hp;rw [hx] at hrx;obtain⟨b,base,ad,c1,hX,hp1,hlc,hcc,qxS,had⟩:=fu hrx;intro v h' nx' hrun qxe;obtain⟨_,cells,out,_,hh,hk,hend⟩:=lT (q:=none) (k:=fun _ cells=>match dz cells off (rows len zero) with|some cells'=>some ⟨fun _=>dQ,some (.row g cells'),none⟩|none=>none) hrun;split at hk
    ·rename_i cells' hov;cases hk;cases hend;obtain⟨b1,qxa,c,e1,h5,h6,h7,h8⟩:=s.row id g cells hh;rw [hp1] at h5;cases h5;have hrl:(rows len zero).length=len*es':=by simp [rows,hzl]
     have hzs:z.cells.size=es':=by omega
     have hnl:(Builtin.zeroCells z.cells len).toList.length=len*es':=by rw [Array.length_toList,size_zeroCells,hzs]
     have hr3:∀(j:Nat) (y:AV),(rows len zero)[j]?=some y->y.one=true/\∃u,(Builtin.zeroCells z.cells len).toList[j]?=some u/\ax φ K w y u:=by
      intro j y hy;have hj:j < len*es':=by
       rcases Nat.lt_or_ge j (len*es') with h'|h'
       ·exact h'
       ·rw [Ut (by omega)] at hy;cases hy
      rw [rows,AW zero len j (by rw [hzl];exact hj),hzl] at hy;obtain⟨r1,u,r2,r3⟩:=z4 _ y hy;refine⟨r1,u,?_,.pure r3⟩;rw [Array.getElem?_toList,Builtin.zeroCells,yg z.cells _ j (by omega) (by rw [hzs];exact hj),hzs];exact r2
     have hl3:(rows len zero).length=(Builtin.zeroCells z.cells len).toList.length:=by omega
     have h1:=kj hl3 hr3;have hof:=(dR hov).1;have hst:=run_storeCells_at P b (base+off) e1 (Builtin.zeroCells z.cells len).toList 0 c w h6 (by omega) h1;simp only [Nat.add_zero] at hst;have hgo:=qo s hh hp1 h6 h7 h8 hov (Builtin.zeroCells z.cells len).toList hl3.symm (fun j a v ha hv=>by obtain⟨_,u,q1,q2⟩:=hr3 j a ha;rw [q1] at hv;cases hv;exact q2) (fun j a ha=>(hr3 j a ha).1)
     refine⟨.tuple #[],_,φ,K,.inl (qxg ?_),hgo,hV⟩;rw [hX];by_cases hl0:len=0
     ·subst hl0;have qzo:(Builtin.zeroCells z.cells 0).toList=[]:=List.eq_nil_of_length_eq_zero (by omega);rw [qzo];simp only [List.append_nil,List.length_nil,Nat.add_zero,List.take_append_drop,Array.toArray_toList];rw [setRow_self w b c e1 (0,0) h6];simp [Builtin.clear_,run_underlying hu]
     ·obtain⟨rfl,_⟩:=had (by omega);obtain⟨k,rfl⟩:=Nat.exists_eq_succ_of_ne_zero hl0;simp only [Nat.succ_eq_add_one] at hst ⊢;simp [Builtin.clear_,run_underlying hu,z1,hst]
    ·cases hk
   ·cases hp
  ·cases hp
 ·cases hm
def DW (P:Program) (o:Oper) (n es:Nat) (x:aR) (lo hi mx:Option aR):Bool:=match o.op with
 |.slice t x' lo' hi' mx'=>bV x' x&&wU lo' lo&&wU hi' hi&&wU mx' mx&&Lj P t n es&&(match mx with|none=>true|some _=>hi.isSome)
 |_=>false
theorem Jr (s:ck top φ K h nx w) (hρ:∀x y,bV x y=true->ax φ K w (ρ y) (ρc x)) {n es:Nat} {x:aR} {lo hi mx:Option aR} (hm:DW P o n es x lo hi mx=true) {p:bg} (hp:lG ρ n es x lo hi mx=some p):Sound top P φ K h nx w ρc o p:=by
 unfold DW at hm;split at hm
 ·rename_i t x' lo' hi' mx' ho;simp only [UN] at hm;obtain⟨⟨⟨⟨⟨h1,h2⟩,h3⟩,h4⟩,h5⟩,h6⟩:=hm;obtain⟨e,hu,hs⟩:=zy h5;have hr:=hρ _ _ h1;have hhi:mx.isSome=true->hi.isSome=true:=by intro xh;obtain⟨q,rfl⟩:=Option.isSome_iff_exists.1 xh;exact h6
  unfold lG at hp;split at hp
  ·rename_i id g off hx;rw [hx] at hr;obtain⟨b,base,hb,hV⟩:=mV hr;split at hp
   ·cases hp
   ·rename_i l hh m hbn;cases hp;obtain⟨hrun,hl1,hl2,hl3⟩:=pS (P:=P) (w:=w) hρ h2 h3 h4 hbn (U3 n) (U3 n) hhi false;have hcap:kT mx n m=m:=by
     cases mx with
     |none=>exact(Az hbn).symm
     |some q=>rfl
    rw [hcap] at hrun;intro v h' nx' hrr qxe;obtain⟨a,out,hf,hk,hend⟩:=uV hrr;cases hk;cases hend;obtain⟨b1,qxa,c,e1,q1,q2,q3,q4,q5⟩:=jo s hf;rw [hb] at q1;cases q1;simp only [Nat.mul_eq] at q3;refine⟨.slice (some (if m=l then ⟨b,base+off,none⟩ else (⟨b,base+off,none⟩:Addr).add (l*es))) (hh - l) (m - l),w,φ,K,.inl ?_,c7.refl s,?_⟩
    ·simp only [execOp,ho];refine gm ?_;simp [Instr.sliceAt,run_underlying hu,hV,Instr.sureAddr,hrun,fk hs]
    ·refine .ref id g _ es _ _ _ b base _ _ hb (by simp only [Nat.sub_eq];omega) (U3 _) (fun _=>rfl) (fun h0=>?_);rw [if_neg (by omega),Addr.add_lit];refine⟨by simp only [Nat.mul_eq,Nat.add_eq,Nat.add_assoc],c,e1,(0,0),q2,?_⟩;have h8:(m - l)*es+l*es<=n*es:=by rw [←Nat.add_mul];exact Nat.mul_le_mul_right _ (by omega)
     simp only [Nat.mul_eq,Nat.add_eq];omega
  ·cases hp
 ·cases hm
def HU (P:Program) (o:Oper) (es bytes:Nat) (zero:List AV) (n:aR):Bool:=match o.op with
 |.makeSlice t l c=>bV l n&&bV c n&&(ga P t fun d=>match d with|.slice e=>(tInfo P e fun i=>Nat.beq i.size es&&Nat.beq i.bytes bytes)&&Nat.blt 0 es&&Nat.beq zero.length es&&yh P e zero|_=>false)
 |_=>false
theorem Ly (s:ck top φ K h nx w) (hρ:∀x y,bV x y=true->ax φ K w (ρ y) (ρc x)) {es bytes:Nat} {zero:List AV} {n:aR} (hm:HU P o es bytes zero n=true) {p:bg} (hp:wh ρ es bytes zero n=some p):Sound top P φ K h nx w ρc o p:=by
 unfold HU at hm;split at hm
 ·rename_i t l c ho;simp only [UN] at hm;obtain⟨⟨hml,hmc⟩,ht⟩:=hm;have hrl:=hρ _ _ hml;have hrc:=hρ _ _ hmc;obtain⟨d,hd,hd2⟩:=bP ht;have hk:∃e,P.underlying t=some (.slice e)/\((tInfo P e fun i=>Nat.beq i.size es&&Nat.beq i.bytes bytes)&&Nat.blt 0 es&&Nat.beq zero.length es&&yh P e zero)=true:=by cases d<;>first|exact⟨_,hd,hd2⟩|cases hd2
  obtain⟨e,hu,hk⟩:=hk;simp only [UN,US,UQ] at hk;obtain⟨⟨⟨hti,hpos⟩,hzl⟩,hz⟩:=hk;obtain⟨i,hi,hi2⟩:=dY hti;simp only [UN,UQ] at hi2;obtain⟨hes,hby⟩:=hi2;obtain⟨z,z1,z2,z3,z4⟩:=qi hz K w;unfold wh at hp;split at hp
  ·rename_i k mi hn;split at hp
   ·rename_i m hbd;simp only [cond_eq_ite,UN,UR] at hp;split at hp
    ·rename_i hc;cases hp;obtain⟨hk1,hb1⟩:=hc;obtain rfl:=vN hk1;obtain⟨rfl,qz0⟩:=uq hbd;rw [hn] at hrl hrc;have hL:=eo hrl;have hC:=eo hrc;simp only [Nat.mul_eq,most] at hb1 qz0;have hzs:z.cells.size=es:=by omega
     refine qd s _ (rows m zero) ((Array.range (m*es)).map (z.cells[·% z.cells.size]!)) e (.slice (some ⟨w.heap.size,0,none⟩) m m) ?_ ?_ ?_ ?_
     ·simp only [execOp,ho];refine gm ?_;have hw:IntKind.i64.wrap (m:Int)=(m:Int):=by rw [←nY];unfold f_;rw [cond_eq_ite,if_pos];simp only [Nh,US];show m < 9223372036854775808;omega
      have e0:Array.range 0=#[]:=rfl;have hb2:¬((281474976710656:Int) < (bytes:Int)*(m:Int)):=by rw [Int.mul_comm,←Int.natCast_mul];omega
      have hb3:¬((m:Int) < 0):=by omega
      by_cases hm0:m*es=0
      ·rw [hm0];simp [Instr.makeSlice,run_underlying hu,hL,hC,asInt,asIntOf,typeInfo,hi,hby,hes,hw,hb2,hb3,sizeOf,hm0,newRow,e0]
      ·simp [Instr.makeSlice,run_underlying hu,hL,hC,asInt,asIntOf,typeInfo,hi,hby,hes,hw,hb2,hb3,sizeOf,hm0,newRow,z1]
     ·simp [rows,hzl]
     ·intro j y hy;have hj:j < m*es:=by
       rcases Nat.lt_or_ge j (m*es) with h'|h'
       ·exact h'
       ·rw [Ut (by simp [rows,hzl];omega)] at hy;cases hy
      rw [rows,AW zero m j (by rw [hzl];exact hj),hzl] at hy;obtain⟨r1,u,r2,r3⟩:=z4 _ y hy;refine⟨r1,u,?_,.pure r3⟩;rw [yg z.cells _ j (by omega) hj,hzs];exact r2
     ·exact .ref nx 0 0 es m m false w.heap.size 0 ⟨w.heap.size,0,none⟩ m (by simp) (U3 _) (U3 _) (fun h=>by cases h) (fun _=>⟨rfl,_,e,(0,0),mq w _,by simp⟩)
    ·cases hp
   ·cases hp
  ·cases hp
 ·cases hm
def L3 (o:Oper) (mx:Bool) (xs:List aR):Bool:=match o.op with
 |.call {callee:=.builtin .min,args:=as,argTypes:=_}=>!mx&&wk as.toList xs
 |.call {callee:=.builtin .max,args:=as,argTypes:=_}=>mx&&wk as.toList xs
 |_=>false
theorem Ug (b:Bool) (x y:Int):(match b with|true=>(bif wm x y then y else x)|false=>(bif wm y x then y else x))=(bif b then (if y > x then y else x) else (if y < x then y else x)):=by cases b<;>simp [oz,cond_eq_ite]
theorem EY (b:Bool) {f:Value->Value->Sem Value} (hf:∀k x k' y,f (.int k x) (.int k' y)=pure (.int k (bif b then (if y > x then y else x) else (if y < x then y else x)))) :
  ∀(xs:List AV) (Xs:List Value) (v:AV) (V:Value) (r:AV),ax φ K w v V->xs.length=Xs.length->(∀(j:Nat) (a:AV) (A:Value),xs[j]?=some a->Xs[j]?=some A->ax φ K w a A)->Ng b v xs=some r->
   ∃R,(Xs.foldlM f V).run P w=.ok R w/\ax φ K w r R:=by
 intro xs
 induction xs with
 |nil=>
  intro Xs v V r hv hl _ hr;cases Xs with
  |nil=>cases hr;exact⟨V,rfl,hv⟩
  |cons _ _=>simp at hl
 |cons a xs ih=>
  intro Xs v V r hv hl qzI hr;cases Xs with
  |nil=>simp at hl
  |cons A Xs=>
   have hA:=qzI 0 a A rfl rfl;unfold Ng at hr;split at hr
   ·rename_i heq;cases heq
   ·rename_i k x k' y rest heq;cases heq;rw [eo hv,eo hA];replace hr:Ng b (.int k (bif b then (if y > x then y else x) else (if y < x then y else x))) xs=some r:=by rw [←Ug];cases b<;>exact hr
    obtain⟨R,h1,h2⟩:=ih Xs _ (.int k (bif b then (if y > x then y else x) else (if y < x then y else x))) r (.pure (.int _ _)) (by simpa using hl) (fun j a A ha hA'=>qzI (j+1) a A (by simpa using ha) (by simpa using hA')) hr;exact⟨R,by simp [List.foldlM_cons,hf,h1],h2⟩
   ·cases hr
theorem vj (hρ:∀x y,bV x y=true->ax φ K w (ρ y) (ρc x)):∀{as:List Operand} {xs:List aR},wk as xs=true->(xs.map ρ).length=(as.map ρc).length/\∀(j:Nat) (a:AV) (A:Value),(xs.map ρ)[j]?=some a->(as.map ρc)[j]?=some A->ax φ K w a A:=by
 intro as
 induction as with
 |nil=>intro xs h;cases xs with
  |nil=>exact⟨rfl,fun j a A ha=>by simp at ha⟩
  |cons _ _=>cases h
 |cons a as ih=>intro xs h;cases xs with
  |nil=>cases h
  |cons x xs=>
   simp only [wk,UN] at h;obtain⟨h1,h2⟩:=ih h.2;refine⟨by simpa using h1,fun j a' A' ha hA=>?_⟩;cases j with
   |zero=>simp at ha hA;subst ha;subst hA;exact hρ _ _ h.1
   |succ j=>exact h2 j a' A' (by simpa using ha) (by simpa using hA)
theorem Og (s:ck top φ K h nx w) (hρ:∀x y,bV x y=true->ax φ K w (ρ y) (ρc x)) {mx:Bool} {xs:List aR} (hm:L3 o mx xs=true) {p:bg} (hp:Ba ρ mx xs=some p):Sound top P φ K h nx w ρc o p:=by
 unfold Ba at hp;split at hp
 ·rename_i v vs hvs;obtain⟨r,hr,rfl⟩:=eW hp;unfold L3 at hm;split at hm
  ·rename_i as tys ho;simp only [UN,UP] at hm;obtain⟨rfl,hm⟩:=hm;obtain⟨h1,h2⟩:=vj hρ hm;rw [hvs] at h1 h2;cases hX:as.toList.map ρc with
   |nil=>rw [hX] at h1;simp at h1
   |cons V Vs=>rw [hX] at h1 h2;obtain⟨R,r1,r2⟩:=EY (P:=P) (φ:=φ) (K:=K) (w:=w) false (f:=Builtin.min2) (fun k x k' y=>rfl) vs Vs v V r (h2 0 v V rfl rfl) (by simpa using h1) (fun j a A ha hA=>h2 (j+1) a A (by simpa using ha) (by simpa using hA)) hr;refine aY s (V:=R) (gK (x:=Builtin.min_ tys o.type (as.map ρc)) ho (fun _=>by simp [builtin]) ?_) r2;simp [Builtin.min_,hX,r1]
  ·rename_i as tys ho;simp only [UN] at hm;obtain⟨rfl,hm⟩:=hm;obtain⟨h1,h2⟩:=vj hρ hm;rw [hvs] at h1 h2;cases hX:as.toList.map ρc with
   |nil=>rw [hX] at h1;simp at h1
   |cons V Vs=>rw [hX] at h1 h2;obtain⟨R,r1,r2⟩:=EY (P:=P) (φ:=φ) (K:=K) (w:=w) true (f:=Builtin.max2) (fun k x k' y=>rfl) vs Vs v V r (h2 0 v V rfl rfl) (by simpa using h1) (fun j a A ha hA=>h2 (j+1) a A (by simpa using ha) (by simpa using hA)) hr;refine aY s (V:=R) (gK (x:=Builtin.max_ tys o.type (as.map ρc)) ho (fun _=>by simp [builtin]) ?_) r2;simp [Builtin.max_,hX,r1]
  ·cases hm
 ·cases hp
end
end Go.Ax
namespace Go.Ax
theorem gH (d:Nat) (H:aU) (id g off es len cap:Nat) (ex:Bool):bk (d+1) H (.ref id g off es len cap ex)=(match H.get id with
    |some (.row g' cells)=>bif Nat.beq g' g then match cut cells off (Nat.mul len es) with
      |some cs=>match fo (bk d H) cs with
       |some cs=>some (.ei cs len (Bool.rec none (some cap) ex))
       |none=>none
      |none=>none
     else none
    |_=>none):=rfl
theorem gI (d:Nat) (H:aU) (cs:List AV):bk (d+1) H (.agg cs)=(match fo (bk d H) cs with|some cs=>some (.agg cs)|none=>none):=rfl
theorem jU (d:Nat) (H:aU) (cs:List AV):bk (d+1) H (.iR cs)=(match fo (bk d H) cs with|some cs=>some (.iR cs)|none=>none):=rfl
theorem vo (d:Nat) (H:aU) (id g off es len cap:Nat) (ex:Bool):bx (d+1) H (.ref id g off es len cap ex)=(match H.get id with
    |some (.row _ cells)=>id::(match cut cells off (Nat.mul len es) with|some cs=>cs.flatMap (bx d H)|none=>[])
    |_=>[id]):=rfl
theorem Aj (d:Nat) (H:aU) (cs:List AV):bx (d+1) H (.agg cs)=cs.flatMap (bx d H):=rfl
theorem Ai (d:Nat) (H:aU) (cs:List AV):bx (d+1) H (.iR cs)=cs.flatMap (bx d H):=rfl
theorem JH (d:Nat) (H:aU) (id g off es len cap:Nat) (ex:Bool):own (d+1) H (.ref id g off es len cap ex)=(match H.get id with
    |some (.row _ cells)=>match cut cells off (Nat.mul len es) with|some cs=>cz (own d H) cs|none=>false
    |_=>false):=rfl
theorem ET (d:Nat) (H:aU) (cs:List AV):own (d+1) H (.agg cs)=cz (own d H) cs:=rfl
theorem ES (d:Nat) (H:aU) (cs:List AV):own (d+1) H (.iR cs)=cz (own d H) cs:=rfl
section
variable {top:Nat} {P:Program} {φ:gW} {K:Nat->Prop} {h:bz} {nx:Nat} {w:World} {H:aU}
theorem zv {d:Nat} {a a':AV} (ht:bk d H a=some a') (h1:a.one=true):a'.one=true:=by
 cases d with
 |zero=>cases ht
 |succ d=>
  cases a with
  |ref id g off es len cap ex=>
   rw [gH] at ht;split at ht
   ·rw [cond_eq_ite] at ht;split at ht
    ·split at ht
     ·split at ht
      ·cases ht;rfl
      ·cases ht
     ·cases ht
    ·cases ht
   ·cases ht
  |agg cs=>cases h1
  |iR cs=>cases h1
  |_=>cases ht<;>rfl
theorem qe {K1:Nat->Prop} (hK:∀b,K b->K1 b) {a:AV} {v:Value} (r:fY K w a v):fY K1 w a v:=r.keep hK (fun _ _=>rfl)
theorem lQ (s:ck top φ K h nx w) (H:aU) (K1:Nat->Prop):∀(d:Nat) (v v':AV) (V:Value),bk d H v=some v'->
  (∀id,id∈bx d H v->h id=H.get id/\∀ob b base,h id=some ob->φ id (gen ob)=some (b,base)->K1 b)->((∀b,K b->K1 b)\/own d H v=true)->ax φ K w v V->fY K1 w v' V:=by
 intro d
 induction d with
 |zero=>intro v v' V ht;cases ht
 |succ d ih=>
  intro v v' V ht qxl hor hr;have qx6:∀(cs cs':List AV),fo (bk d H) cs=some cs'->(∀id,id∈cs.flatMap (bx d H)->h id=H.get id/\∀ob b base,h id=some ob->φ id (gen ob)=some (b,base)->K1 b)->
    ((∀b,K b->K1 b)\/cz (own d H) cs=true)->cs'.length=cs.length/\∀(j:Nat) (a':AV),cs'[j]?=some a'->∃a,cs[j]?=some a/\bk d H a=some a'/\∀V,ax φ K w a V->fY K1 w a' V:=by
   intro cs cs' hm hi ho;obtain⟨hl,hat⟩:=iU hm;refine⟨hl.symm,fun j a' ha'=>?_⟩;have hj:j < cs'.length:=(Uo.1 ha').1;have hcs:cs[j]?=some cs[j]:=Un (by omega);obtain⟨b,hb1,hb2⟩:=hat j _ hcs;rw [ha'] at hb1;cases hb1;refine⟨_,hcs,hb2,fun V hV=>?_⟩;have hmem:cs[j]∈cs:=Uw hcs;refine ih _ _ V hb2 (fun id hid=>hi id (List.mem_flatMap.2 ⟨_,hmem,hid⟩)) ?_ hV;rcases ho with h1|h1
   ·exact .inl h1
   ·rw [aX] at h1;exact .inr (h1 _ hmem)
  cases v with
  |bool b=>cases ht;rw [fc hr];exact .bool b
  |int k n=>cases ht;rw [eo hr];exact .int k n
  |str x=>cases ht;rw [ld hr];exact .str x
  |qR=>cases ht;cases hr with|pure r=>cases r;exact .qR
  |ay=>cases ht;rw [dw hr];exact .ay
  |func f=>cases ht;rw [tg hr];exact .func f
  |ptr id g off=>cases ht
  |nU id=>cases ht
  |ic cs off=>
   cases ht;rcases hor with h1|h1
   ·cases hr with|pure r=>exact qe h1 r
   ·cases h1
  |ei cs n cap=>
   cases ht;rcases hor with h1|h1
   ·cases hr with|pure r=>exact qe h1 r
   ·cases cs with
    |nil=>obtain⟨ad,c',rfl,h2,h3,h4,h5⟩:=jf hr;exact .ei [] n cap ad c' (fun _=>undef) (fun h=>absurd rfl h) h2 h3 (fun j a ha=>by simp at ha) (fun j hj=>by simp at hj) (fun j a ha=>by simp at ha)
    |cons c cs=>cases h1
  |agg cs=>
   rw [gI] at ht;split at ht
   ·rename_i cs' hm;cases ht;rw [ET] at hor;obtain⟨vs,rfl,hl,hc⟩:=lg hr;obtain⟨hl2,hat⟩:=qx6 cs cs' hm (by rw [Aj] at qxl;exact qxl) hor;refine .agg cs' vs (by omega) (fun j a' ha'=>?_) (fun j a' v ha' hv=>?_)
    ·obtain⟨a,q1,q2,_⟩:=hat j a' ha';exact zv q2 (hc j a q1).1
    ·obtain⟨a,q1,q2,q3⟩:=hat j a' ha';obtain⟨_,v1,v2,v3⟩:=hc j a q1;rw [hv] at v2;cases v2;exact q3 _ v3
   ·cases ht
  |iR cs=>
   rw [jU] at ht;split at ht
   ·rename_i cs' hm;cases ht;rw [ES] at hor;obtain⟨vs,rfl,hl,hc⟩:=AX hr;obtain⟨hl2,hat⟩:=qx6 cs cs' hm (by rw [Ai] at qxl;exact qxl) hor;refine .iR cs' vs (by omega) (fun j a' v ha' hv=>?_);obtain⟨a,q1,q2,q3⟩:=hat j a' ha';obtain⟨v1,v2,v3⟩:=hc j a q1;rw [hv] at v2;cases v2;exact q3 _ v3
   ·cases ht
  |ref id g off es len cap ex=>
   rw [gH] at ht;rw [vo] at qxl;rw [JH] at hor;cases hg:H.get id with
   |none=>rw [hg] at ht;cases ht
   |some ob=>
    rw [hg] at ht qxl hor;cases ob with
    |map es=>cases ht
    |row g' cells=>
     simp only [cond_eq_ite,UQ] at ht qxl hor;split at ht
     ·rename_i hgg;subst hgg;cases qxj:cut cells off (Nat.mul len es) with
      |none=>rw [qxj] at ht;cases ht
      |some cs=>
       rw [qxj] at ht qxl hor;simp only at ht qxl hor;split at ht
       ·rename_i cs' hm;cases ht;obtain⟨b,base,ad,c',rfl,hp1,hlc,hcc,qxS,had⟩:=fu hr;have hgh:h id=some (.row g' cells):=by rw [(qxl id (UG ..)).1,hg]
        have hf:eC h (some ⟨id,g',off,Nat.mul len es⟩)=some cs:=by simp only [eC,hgh,cond_eq_ite,UQ,if_true];exact qxj
        obtain⟨b1,qxa,c,e,q1,q2,q3,q4,q5⟩:=jo s hf;rw [hp1] at q1;cases q1;simp only [Nat.mul_eq] at q3 q4;obtain⟨hl2,hat⟩:=qx6 cs cs' hm (fun id' qxv=>qxl id' (UH _ qxv)) hor;have hK1:K1 b:=(qxl id (UG ..)).2 _ b base hgh (by simpa [gen] using hp1);have hne:cs'≠[]->c'≠0:=by
         intro hne h0;apply hne;apply List.eq_nil_of_length_eq_zero;have:len=0:=by omega
         rw [hl2,q4,this,Nat.zero_mul]
        refine .ei cs' len _ ad c' (fun j=>c.getD (base+off+j) undef) (fun h=>?_) (by omega) (fun x hx=>?_) (fun j a' ha'=>?_) (fun j hj=>?_) (fun j a' ha'=>?_)
        ·obtain⟨rfl,_⟩:=had (hne h);exact⟨rfl,hK1⟩
        ·cases ex with
         |true=>cases hx;exact qxS rfl
         |false=>cases hx
        ·obtain⟨a,p1,p2,_⟩:=hat j a' ha';exact zv p2 (q5 j a p1).1
        ·have qzY:cs'≠[]:=by rintro rfl;simp at hj
         obtain⟨rfl,_⟩:=had (hne qzY);rw [nv q2];have:base+off+j < c.size:=by omega
         simp [Array.getElem?_eq_getElem this]
        ·obtain⟨a,p1,p2,p3⟩:=hat j a' ha';obtain⟨_,v1,v2,v3⟩:=q5 j a p1;have hjl:base+off+j < c.size:=(Array.getElem?_eq_some_iff.1 v2).1;have:c.getD (base+off+j) undef=v1:=by rw [Array.getElem?_eq_getElem hjl] at v2;simp [hjl];exact U0 v2
         rw [this];exact p3 _ v3
       ·cases ht
     ·cases ht
end
end Go.Ax
namespace Go.Ax
def tR (P:Program) (o:Oper) (len:Nat) (zero:List AV) (parts:List (Nat×Nat×aR)):Bool:=match o.op with
 |.buildSlice t _ _=>ga P t fun d=>match d with|.slice e=>tInfo P e fun i=>FU P o i.size len zero parts|_=>false
 |_=>false
def KU (P:Program) (o:Oper) (ao:fO):Bool:=match ao with
 |.mv x=>Sn o x
 |.pick c a b=>HT o c a b
 |.alloc zero=>D2 P o zero
 |.box x=>L_ o x
 |.build zero parts=>D1 P o zero parts
 |.jd es len zero parts=>FU P o es len zero parts
 |.b6 len zero parts=>tR P o len zero parts
 |.load sz a=>HV P o sz a
 |.store sz a x=>DU P o sz a x
 |.lW x=>DX o x
 |.bin op x y=>Ma o op x y
 |.eq t neg x y=>So P o t neg x y
 |.un op x=>Sl o op x
 |.conv k x=>HZ P o k x
 |.vg es bytes zero n=>HU P o es bytes zero n
 |.nO x lo hi=>DV P o x lo hi
 |.n_ es x lo hi mx=>HS P o es x lo hi mx
 |.k9 n es x lo hi mx=>DW P o n es x lo hi mx
 |.kO off x=>DZ P o off x
 |.F5 off sz x=>L5 P o off sz x
 |.dP es x i=>DY P o es x i
 |.oM len es x i=>HW P o len es x i
 |.idx x i=>mIdx P o x i
 |.ext i x=>L6 o i x
 |.app es bytes s x=>Mb P o es bytes s x
 |.Gv es d s=>L8 P o es d s
 |.Kw es zero x=>L9 P o es zero x
 |.len str x=>L4 P o str x
 |.DR mx xs=>L3 o mx xs
 |.ri=>false
 |.q_ _ _ _ _ _=>false
 |.Bh _ _ _ _=>false
 |.zm _=>false
 |.call f args _=>match o.op with
  |.call {callee:=.value (.func g),args:=as,argTypes:=_}=>Nat.beq g f&&wk as.toList args
  |_=>false
 |.eP f args _=>match o.op with
  |.call {callee:=.value x,args:=as,argTypes:=_}=>bV x f&&wk as.toList args
  |_=>false
section
variable {top:Nat} {P:Program} {φ:gW} {K:Nat->Prop} {h:bz} {nx:Nat} {w:World} {ρ:aR->AV} {ρc:Operand->Value} {o:Oper}
theorem GV (s:ck top φ K h nx w) (hρ:∀x y,bV x y=true->ax φ K w (ρ y) (ρc x)) {ao:fO} (hm:KU P o ao=true) {pf:(aR->AV)->Option bg} (hk:kind ao=.plan pf) {p:bg} (hp:pf ρ=some p):Sound top P φ K h nx w ρc o p:=by
 cases ao with
 |mv x=>cases hk;cases hp;exact Rb s hρ hm
 |pick c a b=>cases hk;exact Lx s hρ hm hp
 |alloc zero=>cases hk;cases hp;exact Jw s hm
 |box x=>cases hk;exact On s hρ hm hp
 |build zero parts=>cases hk;exact Jv s hρ hm hp
 |jd es len zero parts=>cases hk;exact GW s hρ hm hp
 |b6 len zero parts=>
  cases hk;have hm':tR P o len zero parts=true:=hm;unfold tR at hm';split at hm'
  ·obtain⟨d,_,hd⟩:=bP hm';split at hd
   ·obtain⟨i,_,hi⟩:=dY hd;exact B7 s (fun x y _=>hρ x y) hi hp
   ·cases hd
  ·cases hm'
 |load sz a=>cases hk;exact Lz s hρ hm hp
 |store sz a x=>cases hk;exact Jp s hρ hm hp
 |lW x=>cases hk;exact Js s hρ hm hp
 |bin op x y=>cases hk;exact Oo s hρ hm hp
 |eq t neg x y=>cases hk;exact Rc s hρ hm hp
 |un op x=>cases hk;exact Ra s hρ hm hp
 |conv k x=>cases hk;exact LB s hρ hm hp
 |vg es bytes zero n=>cases hk;exact Ly s hρ hm hp
 |nO x lo hi=>cases hk;exact Jq s hρ hm hp
 |n_ es x lo hi mx=>cases hk;exact Lw s hρ hm hp
 |k9 n es x lo hi mx=>cases hk;exact Jr s hρ hm hp
 |kO off x=>cases hk;exact Ju s hρ hm hp
 |F5 off sz x=>cases hk;exact Oj s hρ hm hp
 |dP es x i=>cases hk;exact Jt s hρ hm hp
 |oM len es x i=>cases hk;exact LA s hρ hm hp
 |idx x i=>cases hk;exact Oi s hρ hm hp
 |ext i x=>cases hk;exact Ok s hρ hm hp
 |app es bytes a x=>cases hk;exact Oq s hρ hm hp
 |Gv es d a=>cases hk;exact Ol s hρ hm hp
 |Kw es zero x=>cases hk;exact Om s hρ hm hp
 |len str x=>cases hk;exact Oh s hρ hm hp
 |DR mx xs=>cases hk;exact Og s hρ hm hp
 |ri=>cases hm
 |q_ _ _ _ _ _=>cases hm
 |Bh _ _ _ _=>cases hm
 |zm _=>cases hm
 |call f args m=>cases hk
 |eP f args m=>cases hk
def Ends (top:Nat) (φ:gW) (K:Nat->Prop) (h:bz) (nx:Nat) (w:World) (v:AV) (h':bz) (nx':Nat) (V:Value) (w':World):Prop:=
 ∃φ' K',c7 top φ K h nx w φ' K' h' nx' w'/\ax φ' K' w' v V
def I6 (top:Nat) (P:Program) (φ:gW) (K:Nat->Prop) (h:bz) (nx:Nat) (w:World) (o:Oper) (a:Act) (v:AV) (h':bz) (nx':Nat):Prop:=
 ∀(next:Act->World->Prop) (Q:Exit->Act->World->Prop),(∀V w',Ends top φ K h nx w v h' nx' V w'->next (a.put o.dst V) w')->o.wp P a w next Q
theorem r_ {a:Act} {p:bg} (hs:Sound top P φ K h nx w a.eval o p) {v:AV} {h':bz} {nx':Nat} (hr:uW p h nx=some (v,h',nx')) (ht:nx'<=top):I6 top P φ K h nx w o a v h' nx':=by
 intro next Q hn;obtain⟨V,w',φ',K',hrun,hg,hv⟩:=hs v h' nx' hr ht;unfold Oper.wp;rcases hrun with hrun|⟨hrun,rfl⟩
 ·rw [hrun];exact hn V w' ⟨φ',K',hg,hv⟩
 ·rw [hrun];exact hn undef w' ⟨φ',K',hg,hv⟩
theorem iq:∀(ids:List Nat) (H:aU) (id:Nat),(drop H ids).get id=if id∈ids then none else H.get id
 |[],H,id=>by simp [drop]
 |i::ids,H,id=>by
  rw [drop,iq ids,Map.aa];by_cases h1:id∈ids
  ·rw [if_pos h1,if_pos (UH _ h1)]
  ·rw [if_neg h1];by_cases h2:id=i
   ·rw [if_pos h2,if_pos (by rw [h2];exact UG ..)]
   ·rw [if_neg h2,if_neg (by simp [h1,h2])]
def Of (φ:gW) (h:bz) (ids:List Nat) (b:Nat):Prop:=∃id,id∈ids/\∃ob base,h id=some ob/\φ id (gen ob)=some (b,base)
theorem wz (s:ck top φ K h nx w) (ids:List Nat) (h':bz) (hd:∀id,h' id=if id∈ids then none else h id):c7 top φ K h nx w φ (fun b=>K b\/Of φ h ids b) h' nx w:=by
 have hsub:∀id ob,h' id=some ob->h id=some ob/\id ∉ ids:=by
  intro id ob hh;rw [hd] at hh;split at hh
  ·cases hh
  ·rename_i hn;exact⟨hh,hn⟩
 have qxV:∀b,zb φ h' b->zb φ h b:=fun b ⟨id,ob,base,h1,h2⟩=>⟨id,ob,base,(hsub _ _ h1).1,h2⟩
 have hval:∀{a:AV} {v:Value},ax φ K w a v->ax φ (fun b=>K b\/Of φ h ids b) w a v:=fun r=>ax.keep (fun _ _ _ h=>h) (fun _ h=>.inl h) (fun _ _=>rfl) (fun _ c _ _ h=>⟨c,h,rfl⟩) r
 refine⟨fun _ _ _ h=>h,fun _ h=>.inl h,⟨fun b hb=>?_,fun id g cells hh=>?_,fun id es hh=>?_,fun id id' ob ob' b base base' h1 h2=>s.inj id id' ob ob' b base base' (hsub _ _ h1).1 (hsub _ _ h2).1,fun id ob hh=>s.low id ob (hsub _ _ hh).1,s.new⟩,
  Ext.refl _ _,fun b hb=>.inl (qxV b hb),fun b hb=>?_,fun _ _ _ h=>.inl h,fun id hi=>?_,U3 _⟩
 ·rcases hb with hb|⟨id,hid,ob,base,h1,h2⟩
  ·exact⟨(s.nX b hb).1,fun hm=>(s.nX b hb).2 (qxV b hm)⟩
  ·refine⟨gq s h1 h2,fun ⟨id',ob',base',h3,h4⟩=>?_⟩;have:=s.inj id id' ob ob' b base base' h1 (hsub _ _ h3).1 h2 h4;subst this;exact(hsub _ _ h3).2 hid
 ·obtain⟨b,base,c,e,h1,h2,h3,h4⟩:=s.row id g cells (hsub _ _ hh).1;exact⟨b,base,c,e,h1,h2,h3,fun j a ha=>⟨(h4 j a ha).1,let ⟨v,a1,a2⟩:=(h4 j a ha).2;⟨v,a1,hval a2⟩⟩⟩
 ·obtain⟨b,mes,clk,h1,h2,h3,h4⟩:=s.map id es (hsub _ _ hh).1;exact⟨b,mes,clk,h1,h2,h3,fun j k v hj=>let ⟨me,m1,m2,m3⟩:=h4 j k v hj;⟨me,m1,hval m2,hval m3⟩⟩
 ·rcases hb with hb|⟨id,_,ob,base,h1,h2⟩
  ·exact .inl hb
  ·exact .inr (.inr ⟨id,ob,base,h1,h2⟩)
 ·cases hh:h' id with
  |none=>rw [hh] at hi;cases hi
  |some ob=>rw [(hsub _ _ hh).1];exact .inl rfl
theorem c7.from {φ1:gW} {K1:Nat->Prop} {h1:bz} {uN:Nat} {w1:World} (g:c7 top φ K h nx w φ1 K1 h1 uN w1) {v:AV} {h':bz} {nx':Nat} {V:Value} {w':World} (e:Ends top φ1 K1 h1 uN w1 v h' nx' V w'):Ends top φ K h nx w v h' nx' V w':=
 let ⟨φ',K',g',r⟩:=e;⟨φ',K',g.trans g',r⟩
theorem Cz {a:Act} {H:aU} (s:ck top φ K h nx w) (hρ:∀x y,bV x y=true->ax φ K w (ρ y) (a.eval x)) {len:Nat} {zero:List AV} {parts:List (Nat×Nat×aR)} (hm:tR P o len zero parts=true)
  (hH:∀id,id∈(parts.map fun p=>ρ p.2.2).flatMap (bx deep H)->h id=H.get id)
  {vs:List AV} (hall:fo (bk deep H) (parts.map fun p=>ρ p.2.2)=some vs) {v:AV} (hp:ep (sx H ρ) len zero parts=some (.val v)) (ht:nx<=top) :
  I6 top P φ K h nx w o a v (fun id=>if id∈(parts.map fun p=>ρ p.2.2).flatMap (bx deep H) then none else h id) nx:=by
 have hg:=wz s ((parts.map fun p=>ρ p.2.2).flatMap (bx deep H)) (fun id=>if id∈(parts.map fun p=>ρ p.2.2).flatMap (bx deep H) then none else h id) (fun id=>rfl);have hρ':∀x y,y∈parts.map (·.2.2)->bV x y=true->ax φ (fun b=>K b\/Of φ h ((parts.map fun p=>ρ p.2.2).flatMap (bx deep H)) b) w (sx H ρ y) (a.eval x):=by
  intro x y hy hxy;obtain⟨pt,hpt,rfl⟩:=UL.1 hy;have hmem:ρ pt.2.2∈parts.map fun p=>ρ p.2.2:=UL.2 ⟨pt,hpt,rfl⟩
  obtain⟨j,hj,hjj⟩:=List.getElem_of_mem hmem;obtain⟨_,hat⟩:=iU hall;obtain⟨v',_,hv'⟩:=hat j _ (by rw [Un hj,hjj]);unfold sx;rw [hv'];refine .pure (lQ s H _ deep _ _ _ hv' (fun id hid=>⟨hH id (List.mem_flatMap.2 ⟨_,hmem,hid⟩),fun ob b base h1 h2=>.inr ⟨id,List.mem_flatMap.2 ⟨_,hmem,hid⟩,ob,base,h1,h2⟩⟩) (.inl fun b hb=>.inl hb) (hρ _ _ hxy))
 have hs:Sound top P φ (fun b=>K b\/Of φ h ((parts.map fun p=>ρ p.2.2).flatMap (bx deep H)) b) (fun id=>if id∈(parts.map fun p=>ρ p.2.2).flatMap (bx deep H) then none else h id) nx w a.eval o (.val v):=by
  unfold tR at hm;split at hm
  ·obtain⟨d,_,hd⟩:=bP hm;split at hd
   ·obtain⟨i,_,hi⟩:=dY hd;exact B7 hg.j4 hρ' hi hp
   ·cases hd
  ·cases hm
 intro next Q hn;exact r_ hs (nx':=nx) rfl ht next Q (fun V w' e=>hn V w' (hg.from e))
end
end Go.Ax
namespace Go.Ax
def zd (φ:gW) (K:Nat->Prop) (w:World) (args:List AV) (cargs:Array Value):Prop:=args.length=cargs.size/\∀(j:Nat) (a:AV) (V:Value),args[j]?=some a->cargs[j]?=some V->ax φ K w a V
def M8 (R:Value->World->Prop):Ending->World->Prop
 |.returned V,w=>R V w
 |_,_=>False
def mz (P:Program) (cf:iy):Prop:=∀f args H nx v H' nx',cf f args H nx=some (v,H',nx')->
 (∀args w,(callFunc f args).run P w=.ok (.enter f args) w)/\
 ∀top φ K w cargs,nx'<=top->ck top φ K H.get nx w->zd φ K w args cargs->Calls P f cargs w (M8 (Ends top φ K H.get nx w v H'.get nx'))
section
variable {top:Nat} {P:Program} {φ:gW} {K:Nat->Prop} {h:bz} {nx:Nat} {w:World} {H:aU} {ρ:aR->AV} {ρc:Operand->Value} {o:Oper}
theorem x_ {a:AV} {v:Value} (hf:a.iS=true) (r:ax φ K w a v):fY K w a v:=by
 cases a with
 |agg cs=>have hf':cz AV.flat cs=true:=hf;rw [aX] at hf';obtain⟨vs,rfl,hl,hc⟩:=lg r;refine .agg cs vs hl (fun j a ha=>(hc j a ha).1) (fun j a v ha hv=>?_);obtain⟨_,u,h1,h2⟩:=hc j a ha;rw [hv] at h1;cases h1;exact yP (hf' a (Uw ha)) h2
 |iR cs=>cases hf
 |_=>exact yP hf r
theorem zX {a:AV} {v:Value} (hf:a.plain=true) (r:ax φ K w a v):fY K w a v:=by
 cases a with
 |iR cs=>have hf':cz AV.iS cs=true:=hf;rw [aX] at hf';obtain⟨vs,rfl,hl,hc⟩:=AX r;refine .iR cs vs hl (fun j a v ha hv=>?_);obtain⟨u,h1,h2⟩:=hc j a ha;rw [hv] at h1;cases h1;exact x_ (hf' a (Uw ha)) h2
 |_=>exact x_ hf r
def z5:gW:=fun _ _=>none
theorem sj {φ:gW} {b:Nat}:¬zb φ (Map.leaf:aU).get b:=fun ⟨_,_,_,h,_⟩=>by cases h
theorem xR {t:Nat} (K0:Nat->Prop) (hk:∀b,K0 b->b < w.heap.size):ck t z5 K0 (Map.leaf:aU).get 0 w:=
 ⟨fun b hb=>⟨hk b hb,sj⟩,fun id g cells hh=>(by cases hh),fun id es hh=>(by cases hh),fun id id' ob ob' b base base' h1=>(by cases h1),fun id ob hh=>(by cases hh),fun _ _ _ _=>rfl⟩
theorem Al (s:ck top φ K h nx w) {w':World} (e:Ext (fun _=>False) w w') (K':Nat->Prop) (h1:∀b,K b->K' b) (h2:∀b,K' b->b < w'.heap.size) (h3:∀b,K' b->K b\/w.heap.size<=b):c7 top φ K h nx w φ K' h nx w':=by
 have hsame:∀b,b < w.heap.size->w'.heap[b]?=w.heap[b]?:=fun b hb=>e.same b hb (fun h=>h)
 have hval:∀{a:AV} {v:Value},ax φ K w a v->ax φ K' w' a v:=fun r=>ax.keep (fun _ _ _ h=>h) h1 (fun b hb=>hsame b (s.nX b hb).1) e.shape r
 have qx5:∀b,zb φ h b->b < w.heap.size:=fun b ⟨id,ob',base,h1,h2⟩=>gq s h1 h2
 refine⟨fun _ _ _ h=>h,h1,⟨fun b hb=>⟨h2 b hb,fun hm=>?_⟩,fun id g cells hh=>?_,fun id es hh=>?_,s.inj,s.low,s.new⟩,e.mono (fun _ h=>h.elim),fun b hb=>.inl hb,fun b hb=>?_,fun _ _ _ h=>.inl h,fun _ h=>.inl h,U3 _⟩
 ·rcases h3 b hb with h4|h4
  ·exact(s.nX b h4).2 hm
  ·exact Nat.lt_irrefl _ (UX (qx5 b hm) h4)
 ·obtain⟨b,base,c,e',q1,q2,q3,q4⟩:=s.row id g cells hh;refine⟨b,base,c,e',q1,by rw [hsame b (Array.getElem?_eq_some_iff.1 q2).1];exact q2,q3,fun j a ha=>⟨(q4 j a ha).1,?_⟩⟩;obtain⟨v,hv1,hv2⟩:=(q4 j a ha).2;exact⟨v,hv1,hval hv2⟩
 ·obtain⟨b,mes,clk,q1,q2,q3,q4⟩:=s.map id es hh;refine⟨b,mes,clk,q1,by rw [hsame b (Array.getElem?_eq_some_iff.1 q2).1];exact q2,q3,fun j k v hj=>?_⟩;obtain⟨me,m1,m2,m3⟩:=q4 j k v hj;exact⟨me,m1,hval m2,hval m3⟩
 ·rcases h3 b hb with h4|h4
  ·exact .inl h4
  ·exact .inr (.inl h4)
theorem pR {cf:iy} (hcf:mz P cf) (s:ck top φ K h nx w) {H:aU} (hH:∀id o,H.get id=some o->h id=some o) {f:Nat} {args:List AV} {v:AV} {cargs:Array Value} (ha:zd φ K w args cargs)
  (hd:(cz AV.plain args=true/\fU (cf f args .leaf 0) false=some v)\/∃as,fo (bk deep H) args=some as/\fU (cf f as .leaf 0) true=some v) :
  (∀args w,(callFunc f args).run P w=.ok (.enter f args) w)/\Calls P f cargs w (M8 (Ends top φ K h nx w v h nx)):=by
 rcases hd with ⟨hpl,hr⟩|⟨as,has,hr⟩
 ·rw [aX] at hpl;unfold fU at hr;split at hr
  ·cases hr
  ·rename_i r0 Hc nxc qxd;simp only [cond_false] at hr;obtain⟨h1,h2⟩:=hcf f args .leaf 0 r0 Hc nxc qxd;refine⟨h1,?_⟩;have hs:=h2 nxc z5 K w cargs (U3 _) (xR K (fun b hb=>(s.nX b hb).1)) ⟨ha.1,fun j a V hj hV=>.pure (zX (hpl a (Uw hj)) (ha.2 j a V hj hV))⟩;refine Calls.mono hs (fun e w' he=>?_);cases e with
   |returned V=>
    obtain⟨φc,Kc,g,hV⟩:=he;have qx5:∀b,zb φc Hc.get b->b < w'.heap.size:=fun b ⟨id,ob',base,h1,h2⟩=>gq g.j4 h1 h2
    have hg:=Al s (w':=w') (g.ext.mono (fun b hb=>(sj hb).elim)) (fun b=>Kc b\/zb φc Hc.get b) (fun b hb=>.inl (g.k b hb)) (fun b hb=>hb.elim (fun h=>(g.j4.nX b h).1) (qx5 b)) (fun b hb=>by
     rcases hb with hb|hb
     ·rcases g.zl b hb with h3|h3|h3
      ·exact .inl h3
      ·exact .inr h3
      ·exact(sj h3).elim
     ·rcases g.mu b hb with h3|h3
      ·exact(sj h3).elim
      ·exact .inr h3)
    refine⟨φ,_,hg,.pure ?_⟩;rw [cond_eq_ite] at hr;split at hr
    ·rename_i hpr;cases hr;exact qe (fun b hb=>.inl hb) (zX hpr hV)
    ·exact lQ g.j4 Hc _ deep _ _ _ hr (fun id _=>⟨rfl,fun ob b base h1 h2=>.inr ⟨id,ob,base,h1,h2⟩⟩) (.inl fun b hb=>.inl hb) hV
   |panicked _=>exact he.elim
   |outgrown=>exact he.elim
 ·unfold fU at hr;split at hr
  ·cases hr
  ·rename_i r0 Hc nxc qxd;simp only [cond_true] at hr;rw [cond_eq_ite] at hr;split at hr
   ·rename_i hown;obtain⟨h1,h2⟩:=hcf f as .leaf 0 r0 Hc nxc qxd;refine⟨h1,?_⟩;obtain⟨hl,hat⟩:=iU has;have sH:=s.part hH;have hs:=h2 nxc z5 (fun b=>b < w.heap.size) w cargs (U3 _) (xR _ (fun b hb=>hb)) ⟨by rw [←hl];exact ha.1,fun j a' V hj hV=>by
     have hj':j < args.length:=by have:=(Uo.1 hj).1;omega
     obtain⟨y,hy1,hy2⟩:=hat j _ (Un hj');rw [hj] at hy1;cases hy1;exact .pure (lQ sH H _ deep _ _ _ hy2 (fun id _=>⟨rfl,fun ob b base h1 h2=>gq sH h1 h2⟩) (.inl fun b hb=>(s.nX b hb).1) (ha.2 j _ V (Un hj') hV))⟩
    refine Calls.mono hs (fun e w' he=>?_);cases e with
    |returned V=>
     obtain⟨φc,Kc,g,hV⟩:=he;have qx5:∀b,zb φc Hc.get b->b < w'.heap.size:=fun b ⟨id,ob',base,h1,h2⟩=>gq g.j4 h1 h2
     have hg:=Al s (w':=w') (g.ext.mono (fun b hb=>(sj hb).elim)) (fun b=>K b\/zb φc Hc.get b) (fun b hb=>.inl hb) (fun b hb=>hb.elim (fun h=>UX (s.nX b h).1 g.ext.size) (qx5 b)) (fun b hb=>by
      rcases hb with hb|hb
      ·exact .inl hb
      ·rcases g.mu b hb with h3|h3
       ·exact(sj h3).elim
       ·exact .inr h3)
     refine⟨φ,_,hg,.pure ?_⟩;exact qe (fun b hb=>.inr hb) (lQ g.j4 Hc (zb φc Hc.get) deep _ _ _ hr (fun id _=>⟨rfl,fun ob b base h1 h2=>⟨id,ob,base,h1,h2⟩⟩) (.inr hown) hV)
    |panicked _=>exact he.elim
    |outgrown=>exact he.elim
   ·cases hr
theorem lK {cf:iy} {f:Nat} {args:List AV} {v:AV} {H':aU} {nx':Nat} (hd:cR cf f args .borrow H nx=some (v,H',nx')) :
  H'=H/\nx'=nx/\((cz AV.plain args=true/\fU (cf f args .leaf 0) false=some v)\/∃as,fo (bk deep H) args=some as/\fU (cf f as .leaf 0) true=some v):=by
 simp only [cR,cond_eq_ite] at hd;split at hd
 ·rename_i hpl;split at hd
  ·rename_i r hr;cases hd;exact⟨rfl,rfl,.inl ⟨hpl,hr⟩⟩
  ·cases hd
 ·split at hd
  ·cases hd
  ·rename_i as has;split at hd
   ·rename_i r hr;cases hd;exact⟨rfl,rfl,.inr ⟨as,has,hr⟩⟩
   ·cases hd
theorem y7 {cf:iy} (hcf:mz P cf) (s:ck top φ K H.get nx w) {f:Nat} {args:List AV} {m:Mode} {v:AV} {H':aU} {nx':Nat} (hd:cR cf f args m H nx=some (v,H',nx')) (ht:nx'<=top) {cargs:Array Value} (ha:zd φ K w args cargs) :
  (∀args w,(callFunc f args).run P w=.ok (.enter f args) w)/\Calls P f cargs w (M8 (Ends top φ K H.get nx w v H'.get nx')):=by
 cases m with
 |share=>obtain⟨h1,h2⟩:=hcf f args H nx v H' nx' hd;exact⟨h1,h2 top φ K w cargs ht s ha⟩
 |borrow=>obtain⟨rfl,rfl,hc⟩:=lK hd;exact pR hcf s (H:=H') (fun _ _ h=>h) ha hc
theorem ur (hρ:∀x y,bV x y=true->ax φ K w (ρ y) (ρc x)) {as:Array Operand} {xs:List aR} (hm:wk as.toList xs=true):zd φ K w (xs.map ρ) (as.map ρc):=by obtain⟨h1,h2⟩:=vj hρ hm;refine⟨by simpa using h1,fun j a V ha hV=>h2 j a V ha ?_⟩;rw [←hV];simp
theorem m9 {a:Act} {f:Nat} {as:Array Operand} (qxd:∀args w,(callFunc f args).run P w=.ok (.enter f args) w) (hrun:(execOp a.eval o).run P w=(callFunc f (as.map a.eval)).run P w) {v:AV} {h':bz} {nx':Nat} (hc:Calls P f (as.map a.eval) w (M8 (Ends top φ K h nx w v h' nx'))) :
  I6 top P φ K h nx w o a v h' nx':=by
 intro next Q hn;unfold Oper.wp;rw [hrun,qxd,Oper.upon_enter];refine Calls.mono hc (fun e w' he=>?_);cases e with
 |returned V=>exact hn V w' he
 |panicked _=>exact he.elim
 |outgrown=>exact he.elim
theorem HE {cf:iy} (hcf:mz P cf) (s:ck top φ K H.get nx w) {a:Act} (hρ:∀x y,bV x y=true->ax φ K w (ρ y) (a.eval x)) {ao:aq} (hm:KU P o ao.op=true) {v:AV} {H':aU} {nx':Nat} (hd:nW cf ao ρ H nx=some (v,H',nx')) (ht:nx'<=top) :
  I6 top P φ K H.get nx w o a v H'.get nx':=by
 unfold nW at hd;rw [cond_eq_ite] at hd;split at hd
 ·split at hd
  ·rename_i len zero parts hop;split at hd
   ·cases hd
   ·rename_i vs hvs;split at hd
    ·rename_i v' hp;cases hd;rw [hop] at hm;have:=Cz s hρ hm (fun _ _=>rfl) hvs hp ht;have e:(drop H ((parts.map fun p=>ρ p.2.2).flatMap (bx deep H))).get=fun id=>if id∈(parts.map fun p=>ρ p.2.2).flatMap (bx deep H) then none else H.get id:=funext fun id=>iq _ H id
     rw [e];exact this
    ·cases hd
  ·cases hd
 ·unfold iO at hd;split at hd
  ·rename_i pf hk;split at hd
   ·rename_i p hp;exact r_ (GV s hρ hm hk hp) (zR hd) ht
   ·cases hd
  ·rename_i f args m hk;have hop:ao.op=.call f args m:=by cases hop:ao.op<;>rw [hop] at hk<;>cases hk;rfl
   rw [hop] at hm;simp only [KU] at hm;split at hm
   ·rename_i g as tys ho;simp only [UN,UQ] at hm;obtain⟨rfl,hm⟩:=hm;obtain⟨h1,h2⟩:=y7 hcf s hd ht (ur hρ hm);refine m9 (as:=as) h1 ?_ h2;simp [execOp,ho,resolve,Deferred.ofValue,invoke,Act.eval]
   ·cases hm
  ·rename_i f args m hk;have hop:ao.op=.eP f args m:=by cases hop:ao.op<;>rw [hop] at hk<;>cases hk;rfl
   rw [hop] at hm;simp only [KU] at hm;split at hd
   ·rename_i g hg;split at hm
    ·rename_i x as tys ho;simp only [UN] at hm;obtain⟨hx,hm⟩:=hm;have hf:=hρ _ _ hx;rw [hg] at hf;have hX:=tg hf;obtain⟨h1,h2⟩:=y7 hcf s hd ht (ur hρ hm);refine m9 (as:=as) h1 ?_ h2;simp [execOp,ho,resolve,Deferred.ofValue,invoke,hX]
    ·cases hm
   ·cases hd
end
end Go.Ax
namespace Go.Ax
def lO (φ:gW) (K:Nat->Prop) (w:World) (e:Env) (a:Act):Prop:=∀t,ax φ K w (ev e (.t t)) (a.tmps.getD t undef)
def nw (cf:iy):Prop:=∀f args H nx v H' nx',cf f args H nx=some (v,H',nx')->nx<=nx'
def OV (ops:Array Oper):Option (Nat×Bool)->Option (Nat×Bool)->Bool
 |none,none=>true
 |some (j,b),some (t,b')=>(b == b')&&(match (ops[j]?).bind (·.dst) with|some t'=>Nat.beq t' t|none=>false)
 |_,_=>false
def L7:Option Nat->Option Nat->Bool
 |none,none=>true
 |some a,some b=>Nat.beq a b
 |_,_=>false
def jJ (P:Program) (ops:Array Oper) (o:Oper) (ao:aq):Bool:=L7 o.dst ao.dst&&OV ops o.guard ao.gd&&KU P o ao.op
def iV (P:Program) (ops:Array Oper):List Oper->List aq->Bool
 |[],[]=>true
 |o::l,ao::al=>jJ P ops o ao&&iV P ops l al
 |_,_=>false
theorem EZ {a b:Option Nat} (h:L7 a b=true):a=b:=by
 cases a<;>cases b<;>first|rfl|cases h|skip
 simp only [L7,UQ] at h;rw [h]
section
variable {top:Nat} {P:Program} {φ:gW} {K:Nat->Prop} {h:bz} {nx:Nat} {w:World} {H:aU} {o:Oper} {nt:Nat} {cf:iy}
theorem lO.Qu {e:Env} {a:Act} (he:lO φ K w e a):∀x y,bV x y=true->ax φ K w (ev e y) (a.eval x):=by
 intro x y hm;unfold bV at hm;split at hm
 ·rw [UQ] at hm;subst hm;exact he _
 ·obtain⟨h1,h2,_⟩:=qj hm K w;refine .agg _ _ (by simpa using h1) (fun j a ha=>(h2 j a ha).1) fun j a v ha hv=>?_
  obtain⟨_,v',e,r⟩:=h2 j a ha;rw [Array.getElem?_toList,hv] at e;cases e;exact .pure r
 ·exact .pure (yl hm K w).1
 ·rw [UQ] at hm;subst hm;exact .pure (.func _)
 ·cases hm
theorem lO.keep {φ':gW} {K':Nat->Prop} {h':bz} {nx':Nat} {w':World} {e:Env} {a:Act} (he:lO φ K w e a) (s:ck top φ K h nx w) (g:c7 top φ K h nx w φ' K' h' nx' w'):lO φ' K' w' e a:=fun t=>g.val s (he t)
theorem Bq (e:Env) (v:AV) (d t:Nat):ev (e.put (some v) d) (.t t)=if t=d then v else ev e (.t t):=by
 simp only [ev,Map.aa];by_cases h:t=d
 ·rw [if_pos h,if_pos h]
 ·rw [if_neg h,if_neg h]
theorem Cn {e e':Env} {d:Option Nat} {v:AV} {V:Value} {a:Act} (he:lO φ K w e a) (hs:a.tmps.size=nt) (hp:u5 nt e d v=some e') (hv:ax φ K w v V):lO φ K w e' (a.put d V)/\(a.put d V).tmps.size=nt/\(a.put d V).defers=a.defers:=by
 cases d with
 |none=>cases hp;exact⟨he,hs,rfl⟩
 |some d=>
  simp only [u5,cond_eq_ite,US] at hp;split at hp
  ·rename_i hd;cases hp;refine⟨fun t=>?_,by simp [Act.put,hs],rfl⟩;rw [Bq];simp only [Act.put,Array.getD_eq_getD_getElem?,Array.getElem?_setIfInBounds];by_cases ht:t=d
   ·subst ht;rw [if_pos rfl,if_pos rfl,if_pos (by omega)];exact hv
   ·rw [if_neg ht,if_neg (fun h=>ht h.symm)];have:=he t;rwa [Array.getD_eq_getD_getElem?] at this
  ·cases hp
theorem mX {a:AV} {b:Bool} (r:ax φ K w a (.bool b)):a=.bool b:=by
 cases r with
 |pure r=>cases r;rfl
theorem FA {e:Env} {a:Act} (he:lO φ K w e a) {ops:Array Oper} {gd:Option (Nat×Bool)} (hm:OV ops o.guard gd=true):Region.wanted o (yielded ops a.tmps)=wanted e gd:=by
 unfold Region.wanted;cases hg:o.guard with
 |none=>
  rw [hg] at hm;cases gd with
  |none=>rfl
  |some p=>cases hm
 |some p=>
  obtain⟨j,b⟩:=p;rw [hg] at hm;cases gd with
  |none=>cases hm
  |some q=>
   obtain⟨t,b'⟩:=q;simp only [OV,UN,beq_iff_eq] at hm;obtain⟨rfl,hm⟩:=hm;split at hm
   ·rename_i t' ht';rw [UQ] at hm;subst hm;have hr:=he t';rw [Array.getD_eq_getD_getElem?] at hr;simp only [yielded,ht',Option.bind_some,wanted];cases qxc:e.get t' with
    |none=>
     have hev:ev e (.t t')=dQ:=by simp [ev,qxc]
     rw [hev] at hr;split
     ·rename_i x hx;rw [hx] at hr;cases mX hr
     ·rfl
    |some v=>
     have hev:ev e (.t t')=v:=by simp [ev,qxc]
     rw [hev] at hr;split
     ·rename_i x hx;rw [hx] at hr;have:=mX hr;subst this;simp
     ·rename_i hx;cases v with
      |bool x=>
       exfalso;cases hc:a.tmps[t']? with
       |none=>rw [hc] at hr;have hr2:=fc hr;cases hr2
       |some V=>rw [hc] at hr;have hr2:=fc hr;simp at hr2;subst hr2;exact hx x hc
      |_=>rfl
   ·cases hm
def Post (top:Nat) (φ:gW) (K:Nat->Prop) (st:St) (w:World) (nt:Nat) (st':St) (a':Act) (w':World):Prop:=
 ∃φ' K',c7 top φ K st.H.get st.nx w φ' K' st'.H.get st'.nx w'/\lO φ' K' w' st'.env a'/\a'.tmps.size=nt/\a'.defers=[]
theorem Av (hcf:nw cf) {f:Nat} {args:List AV} {m:Mode} {v:AV} {H':aU} {nx':Nat} (hd:cR cf f args m H nx=some (v,H',nx')):nx<=nx':=by
 cases m with
 |share=>exact hcf _ _ _ _ _ _ _ hd
 |borrow=>
  simp only [cR,cond_eq_ite] at hd;split at hd
  ·split at hd
   ·cases hd;exact U3 _
   ·cases hd
  ·split at hd
   ·cases hd
   ·split at hd
    ·cases hd;exact U3 _
    ·cases hd
theorem rX {p:bg} {v:AV} {H':aU} {nx':Nat} (hd:cO p H nx=some (v,H',nx')):nx<=nx':=by
 unfold cO at hd;split at hd
 ·cases hd;exact U3 _
 ·cases hd;exact Nat.le_succ _
 ·unfold fq at hd
  repeat' (split at hd<;>try cases hd)
  all_goals first|exact U3 _|exact Nat.le_succ _
theorem Kr (hcf:nw cf) {ao:aq} {ρ:aR->AV} {v:AV} {H':aU} {nx':Nat} (hd:nW cf ao ρ H nx=some (v,H',nx')):nx<=nx':=by
 unfold nW at hd;rw [cond_eq_ite] at hd;split at hd
 ·split at hd
  ·split at hd
   ·cases hd
   ·split at hd
    ·cases hd;exact U3 _
    ·cases hd
  ·cases hd
 ·unfold iO at hd;split at hd
  ·split at hd
   ·exact rX hd
   ·cases hd
  ·exact Av hcf hd
  ·split at hd
   ·exact Av hcf hd
   ·cases hd
theorem fQ (o:aq) (l:List aq) (st:St):eY cf nt (o::l) st=match dV cf nt o st with
   |some st=>eY cf nt l st
   |none=>none:=rfl
theorem j6 (hcf:nw cf) {ao:aq} {st st':St} (hr:dV cf nt ao st=some st'):st.nx<=st'.nx:=by
 unfold dV at hr;rw [cond_eq_ite] at hr;split at hr
 ·split at hr
  ·cases hr
  ·rename_i v H nx hd;split at hr
   ·cases hr;exact Kr hcf hd
   ·cases hr
 ·split at hr
  ·cases hr;exact U3 _
  ·cases hr
theorem uU (hcf:nw cf) {al:List aq}:∀{st st':St},eY cf nt al st=some st'->st.nx<=st'.nx:=by
 induction al with
 |nil=>intro st st' hr;cases hr;exact U3 _
 |cons o l ih=>
  intro st st' hr;rw [fQ] at hr;split at hr
  ·rename_i st1 h1;exact U1 (j6 hcf h1) (ih hr)
  ·cases hr
theorem rZ (hcf:mz P cf) {ops:Array Oper} {ao:aq} (hm:jJ P ops o ao=true) {st st':St} (hr:dV cf nt ao st=some st') (ht:st'.nx<=top) {a:Act} (s:ck top φ K st.H.get st.nx w) (he:lO φ K w st.env a) (hs:a.tmps.size=nt) (hd:a.defers=[])
  (next:Act->World->Prop) (Q:Exit->Act->World->Prop) (hn:∀a' w',Post top φ K st w nt st' a' w'->next a' w') :
  if Region.wanted o (yielded ops a.tmps) then o.wp P a w next Q else next (a.put o.dst undef) w:=by
 simp only [jJ,UN] at hm;obtain⟨⟨h1,h2⟩,h3⟩:=hm;have qxw:=EZ h1;rw [FA he h2];unfold dV at hr;rw [cond_eq_ite] at hr;split at hr
 ·rename_i hw;rw [if_pos hw];split at hr
  ·cases hr
  ·rename_i v H' nx' hdo;split at hr
   ·rename_i e' hp;cases hr;refine HE hcf s he.Qu h3 hdo ht next Q (fun V w' hE=>?_);obtain⟨φ',K',g,hv⟩:=hE;rw [←qxw] at hp;obtain⟨q1,q2,q3⟩:=Cn (he.keep s g) hs hp hv;exact hn _ _ ⟨φ',K',g,q1,q2,by rw [q3,hd]⟩
   ·cases hr
 ·rename_i hw;rw [if_neg hw];split at hr
  ·rename_i e' hp;cases hr;rw [←qxw] at hp;obtain⟨q1,q2,q3⟩:=Cn he hs hp p9;exact hn _ _ ⟨φ,K,c7.refl s,q1,q2,by rw [q3,hd]⟩
  ·cases hr
theorem Post.trans {φ1:gW} {K1:Nat->Prop} {st st1 st':St} {w1:World} (g:c7 top φ K st.H.get st.nx w φ1 K1 st1.H.get st1.nx w1) {a':Act} {w':World} (p:Post top φ1 K1 st1 w1 nt st' a' w'):Post top φ K st w nt st' a' w':=
 let ⟨φ',K',g',q⟩:=p;⟨φ',K',g.trans g',q⟩
theorem OA (hcf:mz P cf) (hup:nw cf) {ops:Array Oper} {Q:Exit->Act->World->Prop}:∀(l:List Oper) (al:List aq) (st st':St) (a:Act) (w:World) (φ:gW) (K:Nat->Prop),iV P ops l al=true->eY cf nt al st=some st'->st'.nx<=top->
  ck top φ K st.H.get st.nx w->lO φ K w st.env a->a.tmps.size=nt->a.defers=[]->(∀a' w',Post top φ K st w nt st' a' w'->Q .normal a' w')->wpList P ops Q l a w:=by
 intro l
 induction l with
 |nil=>
  intro al st st' a w φ K hm hr ht s he hs hd hQ;cases al with
  |nil=>cases hr;exact hQ a w ⟨φ,K,c7.refl s,he,hs,hd⟩
  |cons _ _=>cases hm
 |cons o l ih=>
  intro al st st' a w φ K hm hr ht s he hs hd hQ;cases al with
  |nil=>cases hm
  |cons ao al=>
   simp only [iV,UN] at hm;rw [fQ] at hr;split at hr
   ·rename_i st1 h1;have qjl:=uU hup hr;refine wpList_step (fun Kn hK=>?_);refine rZ hcf hm.1 h1 (U1 qjl ht) s he hs hd Kn Q (fun a1 w1 hp=>hK a1 w1 ?_);obtain⟨φ1,K1,g,q1,q2,q3⟩:=hp;exact ih al st1 st' a1 w1 φ1 K1 hm.2 hr ht g.j4 q1 q2 q3 (fun a' w' hp'=>hQ a' w' (hp'.trans g))
   ·cases hr
end
end Go.Ax
namespace Go.Ax
section
variable {ρ ρ':aR->AV}
theorem ni:∀(parts:List (Nat×Nat×aR)) (cells:List AV),(∀x,x∈parts.map (·.2.2)->ρ x=ρ' x)->fill ρ parts cells=fill ρ' parts cells:=by
 intro parts
 induction parts with
 |nil=>intro cells _;rfl
 |cons p parts ih=>
  intro cells h;rw [qq,qq,h p.2.2 (by simp)];have ih':∀cells,fill ρ parts cells=fill ρ' parts cells:=fun cells=>ih cells (fun x hx=>h x (by rw [List.map_cons];exact UH _ hx))
  simp only [ih']
theorem vT {x:Option aR} (h:∀y,y∈x.toList->ρ y=ρ' y) (other y:Nat):Fv ρ x other y=Fv ρ' x other y:=by
 cases x with
 |none=>rfl
 |some o=>simp only [Fv,h o (by simp)]
theorem sO {lo hi mx:Option aR} (h1:∀y,y∈lo.toList->ρ y=ρ' y) (h2:∀y,y∈hi.toList->ρ y=ρ' y) (h3:∀y,y∈mx.toList->ρ y=ρ' y) (len cap:Nat):lM ρ lo hi mx len cap=lM ρ' lo hi mx len cap:=by simp only [lM,vT h1,vT h2,vT h3]
theorem FH {es:Nat} {v:AV} {lo hi mx:Option aR} (h1:∀y,y∈lo.toList->ρ y=ρ' y) (h2:∀y,y∈hi.toList->ρ y=ρ' y) (h3:∀y,y∈mx.toList->ρ y=ρ' y):Dy es ρ v lo hi mx=Dy es ρ' v lo hi mx:=by simp only [Dy,sO h1 h2 h3]
theorem D3 (op:fO) (h:∀x,x∈op.c4->ρ x=ρ' x) {p:(aR->AV)->Option bg} (hk:kind op=.plan p):p ρ=p ρ':=by
 cases op<;>cases hk
 case mv x=>simp only [h x (by simp [fO.c4])]
 case pick c a b=>simp only [tj,h c (by simp [fO.c4]),h a (by simp [fO.c4]),h b (by simp [fO.c4])]
 case alloc=>rfl
 case box x=>simp only [Cv,h x (by simp [fO.c4])]
 case build zero parts=>simp only [mZ,ni parts zero h]
 case jd es len zero parts=>simp only [lq,ni parts zero h]
 case b6 len zero parts=>simp only [ep,ni parts zero h]
 case load sz a=>simp only [lp,h a (by simp [fO.c4])]
 case store sz a x=>simp only [lF,h a (by simp [fO.c4]),h x (by simp [fO.c4])]
 case lW x=>simp only [j_,h x (by simp [fO.c4])]
 case bin op x y=>simp only [h x (by simp [fO.c4]),h y (by simp [fO.c4])]
 case eq t neg x y=>simp only [HB,h x (by simp [fO.c4]),h y (by simp [fO.c4])]
 case un op x=>simp only [h x (by simp [fO.c4])]
 case conv k x=>simp only [wj,h x (by simp [fO.c4])]
 case vg es bytes zero n=>simp only [wh,h n (by simp [fO.c4])]
 case nO x lo hi=>
  have e:=fun len cap=>sO (ρ:=ρ) (ρ':=ρ') (lo:=lo) (hi:=hi) (mx:=none) (fun y hy=>h y (by simp [fO.c4];simp at hy;exact .inr (.inl hy))) (fun y hy=>h y (by simp [fO.c4];simp at hy;exact .inr (.inr hy))) (fun y hy=>by simp at hy) len cap
  simp only [oh,h x (by simp [fO.c4]),e]
 case n_ es x lo hi mx=>
  have e:=fun v=>FH (ρ:=ρ) (ρ':=ρ') (es:=es) (v:=v) (lo:=lo) (hi:=hi) (mx:=mx) (fun y hy=>h y (by simp [fO.c4];simp at hy;exact .inr (.inl hy))) (fun y hy=>h y (by simp [fO.c4];simp at hy;exact .inr (.inr (.inl hy)))) (fun y hy=>h y (by simp [fO.c4];simp at hy;exact .inr (.inr (.inr hy))))
  simp only [h x (by simp [fO.c4]),e]
 case k9 n es x lo hi mx=>
  have e:=fun len cap=>sO (ρ:=ρ) (ρ':=ρ') (lo:=lo) (hi:=hi) (mx:=mx) (fun y hy=>h y (by simp [fO.c4];simp at hy;exact .inr (.inl hy))) (fun y hy=>h y (by simp [fO.c4];simp at hy;exact .inr (.inr (.inl hy)))) (fun y hy=>h y (by simp [fO.c4];simp at hy;exact .inr (.inr (.inr hy)))) len cap
  simp only [lG,h x (by simp [fO.c4]),e]
 case kO off x=>simp only [ju,h x (by simp [fO.c4])]
 case F5 off sz x=>simp only [Ct,h x (by simp [fO.c4])]
 case dP es x i=>simp only [ke,h x (by simp [fO.c4]),h i (by simp [fO.c4])]
 case oM len es x i=>simp only [om,h x (by simp [fO.c4]),h i (by simp [fO.c4])]
 case idx x i=>simp only [Cs,h x (by simp [fO.c4]),h i (by simp [fO.c4])]
 case ext i x=>simp only [Cu,h x (by simp [fO.c4])]
 case app es bytes s x=>simp only [h s (by simp [fO.c4]),h x (by simp [fO.c4])]
 case Gv es d s=>simp only [h d (by simp [fO.c4]),h s (by simp [fO.c4])]
 case Kw es zero x=>simp only [JG,h x (by simp [fO.c4])]
 case len str x=>simp only [lH,h x (by simp [fO.c4])]
 case DR mx xs=>have e:xs.map ρ=xs.map ρ':=List.map_congr_left (fun x hx=>h x (by simpa [fO.c4] using hx));simp only [Ba,e]
 case ri=>rfl
 case q_ t zero ok m k=>simp only [HA,h m (by simp [fO.c4]),h k (by simp [fO.c4])]
 case Bh t m k v=>simp only [KQ,h m (by simp [fO.c4]),h k (by simp [fO.c4]),h v (by simp [fO.c4])]
 case zm m=>simp only [KR,h m (by simp [fO.c4])]
end
def fh (o:aq):Bool:=!o.fz&&match o.op with
 |.mv _|.pick ..|.alloc _|.box _|.build ..|.jd ..|.b6 ..|.lW _|.bin ..|.eq ..|.un ..|.conv ..|.vg ..|.nO ..|.n_ ..|.kO ..|.F5 ..|.dP ..|.oM ..|.idx ..|.ext ..|.len ..|.DR ..|.ri=>true
 |_=>false
def nZ (o:aq):Bool:=!o.fz&&match o.op with
 |.load ..|.k9 ..|.q_ ..|.zm _=>true
 |.call _ _ .borrow|.eP _ _ .borrow=>true
 |_=>fh o
def bg.free:bg->Prop
 |.look _ _ _=>False
 |_=>True
theorem CS {p:bg} (h:p.free):p.dW=[]/\p.cW=[]:=by cases p<;>first|exact⟨rfl,rfl⟩|exact h.elim
theorem bS {v:Option AV} {p:bg} (h:fe v=some p):p.free:=by obtain⟨x,_,rfl⟩:=eW h;trivial
theorem Ae {o:aq} (hf:fh o=true) {p:(aR->AV)->Option bg} (hk:kind o.op=.plan p) {ρ:aR->AV} {q:bg} (hp:p ρ=some q):q.free:=by
 simp only [fh,UN] at hf;obtain⟨_,hf⟩:=hf;cases hop:o.op<;>rw [hop] at hk hf<;>first|cases hf|skip
 all_goals (cases hk)
 case mv=>cases hp;trivial
 case pick=>simp only at hp;unfold tj at hp;(repeat' (split at hp<;>try cases hp))<;>first|trivial|exact bS hp|(cases hp;trivial)
 case alloc=>cases hp;trivial
 case box=>simp only at hp;unfold Cv at hp;(repeat' (split at hp<;>try cases hp))<;>first|trivial|exact bS hp|(cases hp;trivial)
 case build=>simp only at hp;unfold mZ at hp;(repeat' (split at hp<;>try cases hp))<;>first|trivial|exact bS hp|(cases hp;trivial)
 case jd=>simp only at hp;unfold lq at hp;(repeat' (split at hp<;>try cases hp))<;>first|trivial|exact bS hp|(cases hp;trivial)
 case b6=>simp only at hp;unfold ep at hp;simp only [cond_eq_ite] at hp;(repeat' (split at hp<;>try cases hp))<;>first|trivial|exact bS hp|(cases hp;trivial)
 case lW=>simp only at hp;unfold j_ at hp;(repeat' (split at hp<;>try cases hp))<;>first|trivial|exact bS hp|(cases hp;trivial)
 case bin=>exact bS hp
 case eq=>simp only at hp;unfold HB at hp;(repeat' (split at hp<;>try cases hp))<;>first|trivial|exact bS hp|(cases hp;trivial)
 case un=>exact bS hp
 case conv=>simp only at hp;unfold wj at hp;(repeat' (split at hp<;>try cases hp))<;>first|trivial|exact bS hp|(cases hp;trivial)
 case vg=>simp only at hp;unfold wh at hp;simp only [cond_eq_ite] at hp;(repeat' (split at hp<;>try cases hp))<;>first|trivial|exact bS hp|(cases hp;trivial)
 case nO=>simp only at hp;unfold oh at hp;(repeat' (split at hp<;>try cases hp))<;>first|trivial|exact bS hp|(cases hp;trivial)
 case n_=>exact bS hp
 case kO=>simp only at hp;unfold ju at hp;(repeat' (split at hp<;>try cases hp))<;>first|trivial|exact bS hp|(cases hp;trivial)
 case F5=>simp only at hp;unfold Ct at hp;(repeat' (split at hp<;>try cases hp))<;>first|trivial|exact bS hp|(cases hp;trivial)
 case dP=>simp only at hp;unfold ke at hp;simp only [cond_eq_ite] at hp;(repeat' (split at hp<;>try cases hp))<;>first|trivial|exact bS hp|(cases hp;trivial)
 case oM=>simp only at hp;unfold om at hp;(repeat' (split at hp<;>try cases hp))<;>first|trivial|exact bS hp|(cases hp;trivial)
 case idx=>simp only at hp;unfold Cs at hp;(repeat' (split at hp<;>try cases hp))<;>first|trivial|exact bS hp|(cases hp;trivial)
 case ext=>simp only at hp;unfold Cu at hp;(repeat' (split at hp<;>try cases hp))<;>first|trivial|exact bS hp|(cases hp;trivial)
 case len=>simp only at hp;unfold lH at hp;(repeat' (split at hp<;>try cases hp))<;>first|trivial|exact bS hp|(cases hp;trivial)
 case DR=>simp only at hp;unfold Ba at hp;(repeat' (split at hp<;>try cases hp))<;>first|trivial|exact bS hp|(cases hp;trivial)
 case ri=>cases hp;trivial
end Go.Ax
namespace Go.Ax
section
open Classical
variable {α ι β:Type}
noncomputable def gM (T:Nat->ι->Prop) (x0:ι->α) (y:Nat->ι->α) (L:Nat->Bool):Nat->ι->α
 |0=>x0
 |k+1=>fun i=>if L k=true/\T k i then y k i else gM T x0 y L k i
variable {T:Nat->ι->Prop} {x0:ι->α} {y:Nat->ι->α} {L:Nat->Bool} {n:Nat}
theorem yp (z:Nat->ι->α) (h0:z 0=x0) (hz:∀k,k < n->∀i,z (k+1) i=if T k i then y k i else z k i) (hL:∀k,k < n->L k=true):gM T x0 y L n=z n:=by
 induction n with
 |zero=>exact h0.symm
 |succ n ih=>funext i;simp only [gM];rw [ih (fun k hk=>hz k (Nat.lt_succ_of_lt hk)) (fun k hk=>hL k (Nat.lt_succ_of_lt hk)),hz n (Nat.lt_succ_self n),hL n (Nat.lt_succ_self n)];simp
theorem yo (f:α->β) (z:Nat->ι->α) (h0:z 0=x0) (hz:∀k,k < n->∀i,z (k+1) i=if T k i then y k i else z k i) (i:ι) {j:Nat} (hj:j < n) (hLj:L j=false) (A:Nat->Prop)
  (hT:∀k,k < n->k≠j->T k i->(k < j/\L k=true)\/((L k=true\/k < j)->f (z k i)=f (z j i)/\f (y k i)=f (z j i))):f (gM T x0 y L n i)=f (z j i):=by
 have key:∀k,k<=n->(k<=j/\gM T x0 y L k i=z k i)\/f (gM T x0 y L k i)=f (z j i):=by
  intro k
  induction k with
  |zero=>intro _;exact .inl ⟨U2 _,by rw [h0];rfl⟩
  |succ k ih=>
   intro hk;have ih:=ih (Nat.le_of_succ_le hk);have hkn:k < n:=hk;simp only [gM];by_cases hkj:k=j
   ·subst hkj;rw [if_neg (by rw [hLj];simp)];rcases ih with ⟨_,h2⟩|h2
    ·exact .inr (by rw [h2])
    ·exact .inr h2
   ·by_cases ht:T k i
    ·rcases hT k hkn hkj ht with ⟨h1,h2⟩|h1
     ·rw [if_pos ⟨h2,ht⟩];exact .inl ⟨by omega,by rw [hz k hkn i,if_pos ht]⟩
     ·by_cases hLk:L k=true
      ·rw [if_pos ⟨hLk,ht⟩];exact .inr (h1 (.inl hLk)).2
      ·rw [if_neg (fun h=>hLk h.1)];rcases ih with ⟨h2,h3⟩|h3
       ·exact .inr (by rw [h3];exact(h1 (.inr (by omega))).1)
       ·exact .inr h3
    ·rw [if_neg (fun h=>ht h.2)];rcases ih with ⟨h2,h3⟩|h3
     ·exact .inl ⟨by omega,by rw [h3,hz k hkn i,if_neg ht]⟩
     ·exact .inr h3
 rcases key n (U3 _) with ⟨h1,_⟩|h1
 ·omega
 ·exact h1
theorem Ad {L':Nat->Bool} {j:Nat} (hj:j < n) (hLj:L j=false) (hj1:L' j=true) (hj2:∀k,k≠j->L' k=L k) (i:ι) (h:T j i->∀k,j < k->k < n->L k=true->¬T k i) :
  gM T x0 y L' n i=if T j i then y j i else gM T x0 y L n i:=by
 have key:∀m,m<=n->gM T x0 y L' m i=if j < m/\T j i then y j i else gM T x0 y L m i:=by
  intro m
  induction m with
  |zero=>intro _;simp [gM]
  |succ m ih=>
   intro hm;have ih:=ih (Nat.le_of_succ_le hm);simp only [gM];by_cases hmj:m=j
   ·subst hmj;by_cases ht:T m i
    ·rw [if_pos ⟨hj1,ht⟩,if_pos ⟨Nat.lt_succ_self m,ht⟩]
    ·rw [if_neg (fun h=>ht h.2),if_neg (fun h=>ht h.2),if_neg (fun h=>ht h.2),ih,if_neg (fun h=>ht h.2)]
   ·have e:=hj2 m hmj;by_cases hc:L m=true/\T m i
    ·rw [if_pos (by rw [e];exact hc)];by_cases hjm:j < m+1/\T j i
     ·exact absurd hc.2 (h hjm.2 m (by omega) hm hc.1)
     ·rw [if_neg hjm,if_pos hc]
    ·rw [if_neg (by rw [e];exact hc),ih,if_neg hc];by_cases ht:T j i
     ·by_cases hjm:j < m
      ·rw [if_pos ⟨hjm,ht⟩,if_pos ⟨by omega,ht⟩]
      ·rw [if_neg (fun h=>hjm h.1),if_neg (fun h=>by omega)]
     ·rw [if_neg (fun h=>ht h.2),if_neg (fun h=>ht h.2)]
 rw [key n (U3 _)];by_cases ht:T j i
 ·rw [if_pos ⟨hj,ht⟩,if_pos ht]
 ·rw [if_neg (fun h=>ht h.2),if_neg ht]
end
section
variable {top:Nat} {P:Program} {φ φ':gW} {K K':Nat->Prop} {h hp hp':bz} {nx nx':Nat} {w w':World}
theorem LM (s:ck top φ K h nx w) {id:Nat} {ob:fZ} (hh:h id=some ob):∃p,φ id (gen ob)=some p:=by
 cases ob with
 |row g cells=>obtain⟨b,base,_,_,h1,_⟩:=s.row id g cells hh;exact⟨_,h1⟩
 |map es=>obtain⟨b,_,_,h1,_⟩:=s.map id es hh;exact⟨_,h1⟩
theorem D6 (s:ck top φ K h nx w) (rest:Nat->Prop) [DecidablePred rest] (hr:∀id,rest id->hp id=none) (hn:∀id,¬rest id->hp id=h id) (g:c7 top φ K hp nx w φ' K' hp' nx' w') (ht:nx'<=top) :
  c7 top φ K h nx w φ' K' (fun id=>if rest id then h id else hp' id) nx' w':=by
 have hsub:∀id ob,hp id=some ob->h id=some ob/\¬rest id:=by
  intro id ob hh;by_cases hc:rest id
  ·rw [hr id hc] at hh;cases hh
  ·rw [hn id hc] at hh;exact⟨hh,hc⟩
 have qxR:∀b,zb φ hp b->zb φ h b:=fun b ⟨id,ob,base,h1,h2⟩=>⟨id,ob,base,(hsub _ _ h1).1,h2⟩
 have hold:∀id ob b base,h id=some ob->φ' id (gen ob)=some (b,base)->φ id (gen ob)=some (b,base):=by intro id ob b base hh hp1;obtain⟨p,hp2⟩:=LM s hh;have:=g.FO _ _ _ hp2;rw [hp1] at this;cases this;exact hp2
 have hnot:∀id ob b base,rest id->h id=some ob->φ id (gen ob)=some (b,base)->¬zb φ hp b:=by rintro id ob b base qxb hh hp1 ⟨id',ob',base',h3,h4⟩;obtain⟨h5,h6⟩:=hsub _ _ h3;have:=s.inj id id' ob ob' b base base' hh h5 hp1 h4;subst this;exact h6 qxb
 have hval:∀{a:AV} {v:Value},ax φ K w a v->ax φ' K' w' a v:=fun r=>ax.keep g.FO g.k (fun b hb=>g.ext.same b (s.nX b hb).1 (fun hm=>(s.nX b hb).2 (qxR b hm))) g.ext.shape r
 refine⟨g.FO,g.k,⟨fun b hb=>⟨(g.j4.nX b hb).1,fun hm=>?_⟩,fun id gg cells hh=>?_,fun id es hh=>?_,fun id id' ob ob' b base base' h1 h2 p1 p2=>?_,fun id ob hh=>?_,g.j4.new⟩,
  g.ext.mono qxR,fun b hb=>?_,fun b hb=>?_,fun id gg p hp1=>?_,fun id hd=>?_,g.nx⟩
 ·obtain⟨id,ob,base,h1,h2⟩:=hm;by_cases hc:rest id
  ·simp only [if_pos hc] at h1;have h3:=hold _ _ _ _ h1 h2;rcases g.zl b hb with h4|h4|h4
   ·exact(s.nX b h4).2 ⟨id,ob,base,h1,h3⟩
   ·exact Nat.lt_irrefl _ (UX (gq s h1 h3) h4)
   ·exact hnot _ _ _ _ hc h1 h3 h4
  ·simp only [if_neg hc] at h1;exact(g.j4.nX b hb).2 ⟨id,ob,base,h1,h2⟩
 ·by_cases hc:rest id
  ·simp only [if_pos hc] at hh;obtain⟨b,base,c,e,q1,q2,q3,q4⟩:=s.row id gg cells hh;refine⟨b,base,c,e,g.FO _ _ _ q1,?_,q3,fun j a ha=>⟨(q4 j a ha).1,let ⟨v,a1,a2⟩:=(q4 j a ha).2;⟨v,a1,hval a2⟩⟩⟩;rw [g.ext.same b (Array.getElem?_eq_some_iff.1 q2).1 (hnot id _ b base hc hh (by simpa [gen] using q1))];exact q2
  ·simp only [if_neg hc] at hh;exact g.j4.row id gg cells hh
 ·by_cases hc:rest id
  ·simp only [if_pos hc] at hh;obtain⟨b,mes,clk,q1,q2,q3,q4⟩:=s.map id es hh;refine⟨b,mes,clk,g.FO _ _ _ q1,?_,q3,fun j k v hj=>let ⟨me,m1,m2,m3⟩:=q4 j k v hj;⟨me,m1,hval m2,hval m3⟩⟩;rw [g.ext.same b (Array.getElem?_eq_some_iff.1 q2).1 (hnot id _ b 0 hc hh (by simpa [gen] using q1))];exact q2
  ·simp only [if_neg hc] at hh;exact g.j4.map id es hh
 ·have mixed:∀id id' ob ob' b base base',rest id->¬rest id'->h id=some ob->hp' id'=some ob'->φ' id (gen ob)=some (b,base)->φ' id' (gen ob')=some (b,base')->False:=by
   intro id id' ob ob' b base base' hc hc' h1 h2 p1 p2;have p3:=hold _ _ _ _ h1 p1;rcases g.mu b ⟨id',ob',base',h2,p2⟩ with h4|h4
   ·exact hnot _ _ _ _ hc h1 p3 h4
   ·exact Nat.lt_irrefl _ (UX (gq s h1 p3) h4)
  by_cases hc:rest id
  ·by_cases hc':rest id'
   ·simp only [if_pos hc] at h1;simp only [if_pos hc'] at h2;exact s.inj id id' ob ob' b base base' h1 h2 (hold _ _ _ _ h1 p1) (hold _ _ _ _ h2 p2)
   ·simp only [if_pos hc] at h1;simp only [if_neg hc'] at h2;exact(mixed _ _ _ _ _ _ _ hc hc' h1 h2 p1 p2).elim
  ·by_cases hc':rest id'
   ·simp only [if_neg hc] at h1;simp only [if_pos hc'] at h2;exact(mixed _ _ _ _ _ _ _ hc' hc h2 h1 p2 p1).elim
   ·simp only [if_neg hc] at h1;simp only [if_neg hc'] at h2;exact g.j4.inj id id' ob ob' b base base' h1 h2 p1 p2
 ·have hnx:=g.nx;by_cases hc:rest id
  ·simp only [if_pos hc] at hh;have hl:=s.low id ob hh;refine⟨fun hx=>hl.1 (by omega),fun gg hgg=>?_⟩;cases hq:φ' id gg with
   |none=>rfl
   |some p=>
    exfalso;rcases g.fr id gg p hq with h4|h4|h4
    ·rw [hl.2 gg hgg] at h4;cases h4
    ·exact hl.1 (by omega)
    ·rw [hr id hc] at h4;cases h4
  ·simp only [if_neg hc] at hh;exact g.j4.low id ob hh
 ·obtain⟨id,ob,base,h1,h2⟩:=hb;by_cases hc:rest id
  ·simp only [if_pos hc] at h1;exact .inl ⟨id,ob,base,h1,hold _ _ _ _ h1 h2⟩
  ·simp only [if_neg hc] at h1;exact(g.mu b ⟨id,ob,base,h1,h2⟩).imp (qxR b) (fun h=>h)
 ·exact(g.zl b hb).imp (fun h=>h) (Or.imp (fun h=>h) (qxR b))
 ·rcases g.fr id gg p hp1 with h4|h4|h4
  ·exact .inl h4
  ·exact .inr (.inl h4)
  ·cases hq:hp id with
   |none=>rw [hq] at h4;cases h4
   |some ob=>rw [(hsub id ob hq).1];exact .inr (.inr rfl)
 ·by_cases hc:rest id
  ·simp only [if_pos hc] at hd;exact .inl hd
  ·simp only [if_neg hc] at hd;rcases g.dom id hd with h4|h4
   ·cases hq:hp id with
    |none=>rw [hq] at h4;cases h4
    |some ob=>rw [(hsub id ob hq).1];exact .inl rfl
   ·exact .inr h4
end
end Go.Ax
namespace Go.Ax
open Classical
def fV (n0:Nat) (cW:M4) (nx nx':Nat) (id:Nat):Prop:=(match cW with|.ids l=>id∈l|.all=>id < n0)\/(nx<=id/\id < nx')
def ji (n0:Nat) (h h':bz):Rd->Prop
 |.w7 r=>eC h (some r)=eC h' (some r)
 |.obj id=>h id=h' id
 |.all=>∀id,id < n0->h id=h' id
section
variable {P:Program} {H H':aU} {nx nx' n0:Nat} {o:Oper} {nt:Nat} {cf:iy} {v:AV} {dW:List Rd} {cW:M4}
theorem zj {p:bg} (hr:cO p H nx=some (v,H',nx')) :
  nx<=nx'/\(∀id,¬fV n0 (.ids p.cW) nx nx' id->H'.get id=H.get id)/\
  ∀h:bz,(∀rd,rd∈p.dW->ji n0 h H.get rd)->uW p h nx=some (v,(fun id=>if fV n0 (.ids p.cW) nx nx' id then H'.get id else h id),nx'):=by
 refine⟨rX hr,?_⟩;have hF:=zR hr;cases p with
 |val x=>
  cases hr;refine⟨fun id _=>rfl,fun h _=>?_⟩;have:(fun id=>if fV n0 (.ids (bg.val v).cW) nx nx id then H.get id else h id)=h:=by
   funext id;rw [if_neg];rintro(h1|h1)
   ·cases h1
   ·omega
  rw [this];rfl
 |new f ob=>
  cases hr;refine⟨fun id hn=>?_,fun h _=>?_⟩
  ·rw [Map.aa,if_neg];rintro rfl;exact hn (.inr ⟨U3 _,Nat.lt_succ_self _⟩)
  ·have:(fun id=>if fV n0 (.ids (bg.new f ob).cW) nx (Nat.succ nx) id then (H.put (some ob) nx).get id else h id)=BW h nx (some ob):=by
    funext id;rw [Map.aa];by_cases hid:id=nx
    ·subst hid;rw [if_pos (.inr ⟨U3 _,Nat.lt_succ_self _⟩),if_pos rfl,dc]
    ·rw [if_neg,bW _ _ hid];rintro(h1|h1)
     ·cases h1
     ·omega
   rw [this];rfl
 |look q u k=>
  simp only [uW] at hF;cases hq:eC H.get q with
  |none=>rw [hq] at hF;cases hF
  |some a=>
   rw [hq] at hF;simp only at hF;cases hu:jR H.get u with
   |none=>rw [hu] at hF;cases hF
   |some ob=>
    rw [hu] at hF;simp only at hF;cases hk:k a ob with
    |none=>rw [hk] at hF;cases hF
    |some out=>
     rw [hk] at hF;simp only at hF;have qjm:∀id,id ∉ (bg.look q u k).cW->wS H.get u out.obj id=H.get id:=by
      intro id hn;cases ho:out.obj with
      |none=>rfl
      |some ob'=>
       cases u with
       |none=>rfl
       |some i=>exact bW _ _ (by rintro rfl;exact hn (by simp [bg.cW]))
     have agree_u:∀h:bz,(∀rd,rd∈(bg.look q u k).dW->ji n0 h H.get rd)->eC h q=some a/\jR h u=some ob/\∀id,wS h u out.obj id=if id∈(bg.look q u k).cW then wS H.get u out.obj id else h id:=by
      intro h ha;refine⟨?_,?_,?_⟩
      ·cases q with
       |none=>exact hq
       |some r=>rw [←hq];exact ha (.w7 r) (by simp [bg.dW])
      ·cases u with
       |none=>exact hu
       |some i=>rw [←hu];have:=ha (.obj i) (by simp [bg.dW]);simp only [ji] at this;simp only [jR,this]
      ·intro id;cases u with
       |none=>cases out.obj<;>simp [bg.cW,wS]
       |some i=>
        have hai:=ha (.obj i) (by simp [bg.dW]);simp only [ji] at hai;simp only [bg.cW,UK];by_cases hid:id=i
        ·subst hid;rw [if_pos rfl];cases out.obj with
         |none=>exact hai
         |some ob'=>simp [wS,dc]
        ·rw [if_neg hid];cases out.obj with
         |none=>rfl
         |some ob'=>exact bW _ _ hid
     cases hnew:out.new with
     |none=>
      rw [hnew] at hF;simp only [Option.some.injEq,Prod.mk.injEq] at hF;obtain⟨rfl,hH,rfl⟩:=hF;refine⟨fun id hn=>?_,fun h ha=>?_⟩
      ·rw [←hH];exact qjm id (fun h=>hn (.inl h))
      ·obtain⟨a1,a2,a3⟩:=agree_u h ha;simp only [uW,a1,a2,hk,hnew];congr 3;funext id;rw [a3 id,←hH];by_cases ht:id∈(bg.look q u k).cW
       ·rw [if_pos ht,if_pos (.inl ht)]
       ·rw [if_neg ht,if_neg];rintro(h1|h1)
        ·exact ht h1
        ·omega
     |some nb=>
      rw [hnew] at hF;simp only [Option.some.injEq,Prod.mk.injEq] at hF;obtain⟨rfl,hH,rfl⟩:=hF;refine⟨fun id hn=>?_,fun h ha=>?_⟩
      ·rw [←hH,bW]
       ·exact qjm id (fun h=>hn (.inl h))
       ·rintro rfl;exact hn (.inr ⟨U3 _,Nat.lt_succ_self _⟩)
      ·obtain⟨a1,a2,a3⟩:=agree_u h ha;simp only [uW,a1,a2,hk,hnew];congr 3;funext id;rw [←hH];by_cases hid:id=nx
       ·subst hid;rw [dc,if_pos (.inr ⟨U3 _,Nat.lt_succ_self _⟩),dc]
       ·rw [bW _ _ hid,bW _ _ hid,a3 id];by_cases ht:id∈(bg.look q u k).cW
        ·rw [if_pos ht,if_pos (.inl ht)]
        ·rw [if_neg ht,if_neg];rintro(h1|h1)
         ·exact ht h1
         ·omega
theorem sV (H:aU) (p:Nat->Bool) (id:Nat):(H.upto p).get id=if p id=true then H.get id else none:=by rw [Map.ij]
theorem yV (hcf:mz P cf) (hup:nw cf) {f:Nat} {args:List AV} {m:Mode} (hn0:n0<=nx) (hd:dm cf n0 f args m H nx=some (v,H',nx',dW,cW)) :
  nx<=nx'/\(∀id,¬fV n0 cW nx nx' id->H'.get id=H.get id)/\(∀args w,(callFunc f args).run P w=.ok (.enter f args) w)/\
  ∀φ K h w cargs,ck nx' φ K h nx w->(∀rd,rd∈dW->ji n0 h H.get rd)->zd φ K w args cargs->
   Calls P f cargs w (M8 (Ends nx' φ K h nx w v (fun id=>if fV n0 cW nx nx' id then H'.get id else h id) nx')):=by
 have none_touch:∀(h:bz),(fun id=>if fV n0 (.ids []) nx nx id then H.get id else h id)=h:=by
  intro h;funext id;rw [if_neg];rintro(h1|h1)
  ·cases h1
  ·omega
 cases m with
 |share=>
  simp only [dm] at hd;split at hd
  ·rename_i v1 Hc uN hc;cases hd;have hle:=hup _ _ _ _ _ _ _ hc;obtain⟨h1,h2⟩:=hcf _ _ _ _ _ _ _ hc;have qxc:∀id,((Hc.upto fun i=>Nat.blt i n0||(Nat.ble nx i&&Nat.blt i nx')).union (H.upto fun i=>!(Nat.blt i n0||(Nat.ble nx i&&Nat.blt i nx')))).get id=if fV n0 .all nx nx' id then Hc.get id else H.get id:=by
    intro id;rw [Map.Am,sV,sV];have hb:(Nat.blt id n0||(Nat.ble nx id&&Nat.blt id nx'))=decide (fV n0 .all nx nx' id):=by rw [Bool.eq_iff_iff];rw [UT];simp only [UO,UN,US,UR,fV]
    rw [hb];by_cases ht:fV n0 .all nx nx' id
    ·simp only [ht,decide_true,if_true,Bool.not_true];cases Hc.get id<;>rfl
    ·simp only [ht,decide_false,if_false,Bool.not_false,if_true];rfl
   refine⟨hle,fun id hn=>by rw [qxc,if_neg hn],h1,fun φ K h w cargs s ha hargs=>?_⟩;have hall:=ha .all (UK.2 rfl);simp only [ji] at hall;have hpart:∀id,((H.upto fun i=>Nat.blt i n0).get id)=if id < n0 then h id else none:=by
    intro id;rw [sV];by_cases hlt:id < n0
    ·rw [if_pos (by rw [US];exact hlt),if_pos hlt,hall id hlt]
    ·rw [if_neg (by rw [US];exact hlt),if_neg hlt]
   have sp:=s.part (h':=(H.upto fun i=>Nat.blt i n0).get) (fun id ob hh=>by
    rw [hpart] at hh;split at hh
    ·exact hh
    ·cases hh)
   have hcl:=h2 nx' φ K w cargs (U3 _) sp hargs;refine Calls.mono hcl (fun e w' he=>?_);cases e with
   |returned V=>
    obtain⟨φ',K',g,hV⟩:=he;refine⟨φ',K',?_,hV⟩;have gf:=D6 s (fun id=>¬id < n0/\¬(nx<=id/\id < nx')) (fun id hr=>by rw [hpart,if_neg hr.1]) (fun id hr=>by
     rw [hpart];by_cases hlt:id < n0
     ·rw [if_pos hlt]
     ·rw [if_neg hlt];cases hh:h id with
      |none=>rfl
      |some ob=>exact absurd ⟨hlt,(s.low id ob hh).1⟩ hr) g (U3 _)
    have:(fun id=>if fV n0 .all nx nx' id then ((Hc.upto fun i=>Nat.blt i n0||(Nat.ble nx i&&Nat.blt i nx')).union (H.upto fun i=>!(Nat.blt i n0||(Nat.ble nx i&&Nat.blt i nx')))).get id else h id)=fun id=>if ¬id < n0/\¬(nx<=id/\id < nx') then h id else Hc.get id:=by
     funext id;rw [qxc];by_cases hlt:id < n0
     ·rw [if_pos (.inl hlt),if_pos (.inl hlt),if_neg (fun h=>h.1 hlt)]
     ·by_cases hnew:nx<=id/\id < nx'
      ·rw [if_pos (.inr hnew),if_pos (.inr hnew),if_neg (fun h=>h.2 hnew)]
      ·rw [if_neg (fun h=>h.elim hlt hnew),if_pos ⟨hlt,hnew⟩]
    rw [this];exact gf
   |panicked _=>exact he.elim
   |outgrown=>exact he.elim
  ·cases hd
 |borrow=>
  simp only [dm,cond_eq_ite] at hd;split at hd
  ·rename_i hpl;split at hd
   ·rename_i v1 H1 uN hc;cases hd;obtain⟨_,_,hb⟩:=lK hc;have hb':cz AV.plain args=true/\fU (cf f args .leaf 0) false=some v:=by
     rcases hb with hb|⟨as,has,hb⟩
     ·exact hb
     ·simp only [cR,hpl,cond_true] at hc;split at hc
      ·rename_i r hr;cases hc;exact⟨hpl,hr⟩
      ·cases hc
    refine⟨U3 _,fun id _=>rfl,?_,fun φ K h w cargs s _ hargs=>?_⟩
    ·obtain⟨_,hr⟩:=hb';unfold fU at hr;split at hr
     ·cases hr
     ·rename_i qxd;exact(hcf _ _ _ _ _ _ _ qxd).1
    ·rw [none_touch];exact(pR hcf s (H:=.leaf) (fun id o hh=>by cases hh) hargs (.inl hb')).2
   ·cases hd
  ·rename_i hpl;split at hd
   ·rename_i v1 H1 uN hc;cases hd;obtain⟨_,_,hb⟩:=lK hc;refine⟨U3 _,fun id _=>rfl,?_,fun φ K h w cargs s ha hargs=>?_⟩
    ·rcases hb with ⟨_,hr⟩|⟨as,_,hr⟩ <;>
     ·unfold fU at hr;split at hr
      ·cases hr
      ·rename_i qxd;exact(hcf _ _ _ _ _ _ _ qxd).1
    ·rw [none_touch];have hall:=ha .all (UK.2 rfl);simp only [ji] at hall;refine(pR hcf s (H:=H.upto fun i=>Nat.blt i n0) (fun id ob hh=>?_) hargs hb).2;rw [sV] at hh;split at hh
     ·rename_i hlt;rw [US] at hlt;rw [hall id hlt];exact hh
     ·cases hh
   ·cases hd
end
end Go.Ax
namespace Go.Ax
open Classical
def SE (f:Nat->AV):aR->AV
 |.t n=>f n
 |.c v=>v
def wY (φ:gW) (K:Nat->Prop) (w:World) (f:Nat->AV) (a:Act):Prop:=∀t,ax φ K w (f t) (a.tmps.getD t undef)
def kY (f:Nat->AV):Option (Nat×Bool)->Bool
 |none=>true
 |some (g,b)=>match f g with
  |.bool b'=>b' == b
  |_=>false
def FN (f:Nat->AV) (d:Option Nat) (v:AV):Nat->AV:=fun t=>if d=some t then v else f t
def OD:aR->List Nat
 |.t n=>[n]
 |.c _=>[]
def aq.zg (o:aq):List Nat:=o.op.c4.flatMap OD++(match o.gd with|some (g,_)=>[g]|none=>[])
theorem BT (e:Env) (gd:Option (Nat×Bool)):wanted e gd=kY (fun t=>ev e (.t t)) gd:=by
 cases gd with
 |none=>rfl
 |some p=>
  obtain⟨g,b⟩:=p;simp only [wanted,kY,ev];cases e.get g with
  |none=>rfl
  |some v=>cases v<;>rfl
section
variable {top:Nat} {P:Program} {φ:gW} {K:Nat->Prop} {h:bz} {w:World} {H H':aU} {nx nx' n0:Nat} {o:Oper} {nt:Nat} {cf:iy} {v:AV} {dW:List Rd} {cW:M4}
theorem wY.Qu {f:Nat->AV} {a:Act} (he:wY φ K w f a):∀x y,bV x y=true->ax φ K w (SE f y) (a.eval x):=by
 intro x y hm;unfold bV at hm;split at hm
 ·rw [UQ] at hm;subst hm;exact he _
 ·obtain⟨h1,h2,_⟩:=qj hm K w;refine .agg _ _ (by simpa using h1) (fun j a ha=>(h2 j a ha).1) fun j a v ha hv=>?_
  obtain⟨_,v',e,r⟩:=h2 j a ha;rw [Array.getElem?_toList,hv] at e;cases e;exact .pure r
 ·exact .pure (yl hm K w).1
 ·rw [UQ] at hm;subst hm;exact .pure (.func _)
 ·cases hm
theorem wY.keep {φ':gW} {K':Nat->Prop} {h':bz} {w':World} {f:Nat->AV} {a:Act} (he:wY φ K w f a) (s:ck top φ K h nx w) (g:c7 top φ K h nx w φ' K' h' nx' w'):wY φ' K' w' f a:=fun t=>g.val s (he t)
theorem Cm {f:Nat->AV} {d:Option Nat} {V:Value} {a:Act} (he:wY φ K w f a) (hs:a.tmps.size=nt) (hd:∀t,d=some t->t < nt) (hv:ax φ K w v V):wY φ K w (FN f d v) (a.put d V)/\(a.put d V).tmps.size=nt/\(a.put d V).defers=a.defers:=by
 cases d with
 |none=>exact⟨fun t=>by simpa [FN,Act.put] using he t,hs,rfl⟩
 |some d=>
  have hlt:=hd d rfl;refine⟨fun t=>?_,by simp [Act.put,hs],rfl⟩;simp only [FN,Act.put,Array.getD_eq_getD_getElem?,Array.getElem?_setIfInBounds,Option.some.injEq];by_cases ht:d=t
  ·subst ht;rw [if_pos rfl,if_pos rfl,if_pos (by omega)];exact hv
  ·rw [if_neg ht,if_neg ht];have:=he t;rwa [Array.getD_eq_getD_getElem?] at this
theorem xu {f:Nat->AV} {a:Act} (he:wY φ K w f a) {ops:Array Oper} {gd:Option (Nat×Bool)} (hm:OV ops o.guard gd=true):Region.wanted o (yielded ops a.tmps)=kY f gd:=by
 unfold Region.wanted;cases hg:o.guard with
 |none=>
  rw [hg] at hm;cases gd with
  |none=>rfl
  |some p=>cases hm
 |some p=>
  obtain⟨j,b⟩:=p;rw [hg] at hm;cases gd with
  |none=>cases hm
  |some q=>
   obtain⟨t,b'⟩:=q;simp only [OV,UN,beq_iff_eq] at hm;obtain⟨rfl,hm⟩:=hm;split at hm
   ·rename_i t' ht';rw [UQ] at hm;subst hm;have hr:=he t';rw [Array.getD_eq_getD_getElem?] at hr;simp only [yielded,ht',Option.bind_some,kY];cases hv:f t' with
    |bool x=>
     rw [hv] at hr;cases hc:a.tmps[t']? with
     |none=>rw [hc] at hr;have hr2:=fc hr;cases hr2
     |some V=>rw [hc] at hr;have hr2:=fc hr;simp at hr2;subst hr2;simp
    |_=>
     rw [hv] at hr;split
     ·rename_i x hx;rw [hx] at hr;cases mX hr
     ·rfl
   ·cases hm
theorem DM {op:fO} {f:Nat} {args:List aR} {m:Mode} (hk:kind op=.call f args m):op=.call f args m:=by cases op<;>cases hk;rfl
theorem CA {op:fO} {f:aR} {args:List aR} {m:Mode} (hk:kind op=.eP f args m):op=.eP f args m:=by cases op<;>cases hk;rfl
theorem Ix (hcf:mz P cf) (hup:nw cf) {ao:aq} (hm:KU P o ao.op=true) {ρ0:aR->AV} (hn0:n0<=nx) (hd:gP cf n0 ao ρ0 H nx=some (v,H',nx',dW,cW)) :
  nx<=nx'/\(∀id,¬fV n0 cW nx nx' id->H'.get id=H.get id)/\(fh ao=true->dW=[]/\cW=.ids [])/\(nZ ao=true->cW=.ids [])/\
  ∀(φ:gW) (K:Nat->Prop) (h:bz) (w:World) (a:Act) (ρ:aR->AV),ck nx' φ K h nx w->(∀rd,rd∈dW->ji n0 h H.get rd)->(∀x y,bV x y=true->ax φ K w (ρ y) (a.eval x))->(∀x,x∈ao.op.c4->ρ x=ρ0 x)->
   I6 nx' P φ K h nx w o a v (fun id=>if fV n0 cW nx nx' id then H'.get id else h id) nx':=by
 unfold gP at hd;rw [cond_eq_ite] at hd;split at hd
 ·rename_i hfz;split at hd
  ·rename_i len zero parts hop;split at hd
   ·cases hd
   ·rename_i vs hvs;split at hd
    ·rename_i v' hp;cases hd;have ht:∀id,fV n0 (.ids ((parts.map fun p=>ρ0 p.2.2).flatMap (bx deep H))) nx nx id↔id∈(parts.map fun p=>ρ0 p.2.2).flatMap (bx deep H):=fun id=>⟨fun h=>h.elim (fun h=>h) (fun h=>by omega),fun h=>.inl h⟩
     refine⟨U3 _,fun id hn=>?_,fun hf=>?_,fun hf=>?_,fun φ K h w a ρ s ha hρ qxL=>?_⟩
     ·rw [iq,if_neg (fun h=>hn ((ht id).2 h))]
     ·simp [fh,hfz] at hf
     ·simp [nZ,hfz] at hf
     ·rw [hop] at hm qxL;have qxI:(parts.map fun p=>ρ p.2.2)=parts.map fun p=>ρ0 p.2.2:=List.map_congr_left (fun p hp=>qxL p.2.2 (UL.2 ⟨p,hp,rfl⟩))
      have hp':ep (sx H ρ) len zero parts=some (.val v):=by rw [←hp];simp only [ep];rw [ni parts zero (ρ:=sx H ρ) (ρ':=sx H ρ0) (fun x hx=>by simp only [sx,qxL x hx])]
      have h1:=Cz (o:=o) s hρ hm (H:=H) (fun id hid=>by rw [qxI] at hid;exact ha (.obj id) (UL.2 ⟨id,hid,rfl⟩)) (by rw [qxI];exact hvs) hp' (U3 nx)
      rw [qxI] at h1;have e:(fun id=>if fV n0 (.ids ((parts.map fun p=>ρ0 p.2.2).flatMap (bx deep H))) nx nx id then (drop H ((parts.map fun p=>ρ0 p.2.2).flatMap (bx deep H))).get id else h id)=fun id=>if id∈(parts.map fun p=>ρ0 p.2.2).flatMap (bx deep H) then none else h id:=by
       funext id;by_cases hid:id∈(parts.map fun p=>ρ0 p.2.2).flatMap (bx deep H)
       ·rw [if_pos ((ht id).2 hid),if_pos hid,iq,if_pos hid]
       ·rw [if_neg (fun h=>hid ((ht id).1 h)),if_neg hid]
      rw [e];intro next Q hn;exact h1 next Q (fun V w' hE=>hn V w' (by
       obtain⟨φ',K',g,r⟩:=hE;refine⟨φ',K',?_,r⟩;have e2:(fun id=>if id∈(parts.map fun p=>ρ0 p.2.2).flatMap (bx deep H) then (none:Option fZ) else h id)=_:=rfl
       first|exact g|(rw [←e2];exact g)))
    ·cases hd
  ·cases hd
 ·rename_i hfz;unfold o_ at hd;split at hd
  ·rename_i pf hk;split at hd
   ·rename_i p hp;split at hd
    ·rename_i v1 H1 uN hrun;cases hd;obtain⟨l1,l2,l3⟩:=zj (n0:=n0) hrun;refine⟨l1,l2,fun hf=>?_,fun hf=>?_,fun φ K h w a ρ s ha hρ qxL=>?_⟩
     ·obtain⟨q1,q2⟩:=CS (Ae hf hk hp);rw [q1,q2];exact⟨rfl,rfl⟩
     ·have:p.cW=[]:=by
       simp only [nZ,UN] at hf;obtain⟨_,hf⟩:=hf;split at hf
       ·rename_i hop;rw [hop] at hk;cases hk;simp only [lp] at hp;split at hp
        ·cases hp;rfl
        ·split at hp
         ·obtain⟨_,_,rfl⟩:=eW hp;rfl
         ·cases hp
        ·cases hp
       ·rename_i hop;rw [hop] at hk;cases hk;simp only [lG] at hp;split at hp
        ·split at hp
         ·cases hp
         ·cases hp;rfl
        ·cases hp
       ·rename_i hop;rw [hop] at hm;cases hm
       ·rename_i hop;rw [hop] at hm;cases hm
       ·rename_i hop;rw [hop] at hk;cases hk
       ·rename_i hop;rw [hop] at hk;cases hk
       ·exact(CS (Ae hf hk hp)).2
      rw [this]
     ·have hpe:pf ρ=some p:=by rw [D3 ao.op qxL hk];exact hp
      exact r_ (GV s hρ hm hk hpe) (l3 h ha) (U3 _)
    ·cases hd
   ·cases hd
  ·rename_i f args m hk;have hop:=DM hk;obtain⟨l1,l2,l3,l4⟩:=yV hcf hup hn0 hd;rw [hop] at hm;simp only [KU] at hm;split at hm
   ·rename_i g as tys ho;simp only [UN,UQ] at hm;obtain⟨rfl,hm⟩:=hm;refine⟨l1,l2,fun hf=>?_,fun hf=>?_,fun φ K h w a ρ s ha hρ qxL=>?_⟩
    ·simp [fh,hop] at hf
    ·cases m with
     |share=>simp [nZ,fh,hop] at hf
     |borrow=>simp only [dm,cond_eq_ite] at hd;split at hd<;>split at hd<;>first|(cases hd;rfl)|cases hd
    ·have hargs:args.map ρ=args.map ρ0:=List.map_congr_left (fun x hx=>qxL x (by rw [hop];exact hx));have ha2:=ur hρ hm;rw [hargs] at ha2;refine m9 (as:=as) l3 ?_ (l4 φ K h w _ s ha ha2);simp [execOp,ho,resolve,Deferred.ofValue,invoke,Act.eval]
   ·cases hm
  ·rename_i f args m hk;have hop:=CA hk;split at hd
   ·rename_i g hg;obtain⟨l1,l2,l3,l4⟩:=yV hcf hup hn0 hd;rw [hop] at hm;simp only [KU] at hm;split at hm
    ·rename_i x as tys ho;simp only [UN] at hm;obtain⟨hx,hm⟩:=hm;refine⟨l1,l2,fun hf=>?_,fun hf=>?_,fun φ K h w a ρ s ha hρ qxL=>?_⟩
     ·simp [fh,hop] at hf
     ·cases m with
      |share=>simp [nZ,fh,hop] at hf
      |borrow=>simp only [dm,cond_eq_ite] at hd;split at hd<;>split at hd<;>first|(cases hd;rfl)|cases hd
     ·have hargs:args.map ρ=args.map ρ0:=List.map_congr_left (fun x hx=>qxL x (by rw [hop];exact UH _ hx));have hf:=hρ _ _ hx;rw [qxL f (by rw [hop];exact UG ..),hg] at hf;have hX:=tg hf;have ha2:=ur hρ hm;rw [hargs] at ha2;refine m9 (as:=as) l3 ?_ (l4 φ K h w _ s ha ha2);simp [execOp,ho,resolve,Deferred.ofValue,invoke,hX]
    ·cases hm
   ·cases hd
end
end Go.Ax
namespace Go.Ax
open Classical
def Touch (n0:Nat) (r:Rec) (id:Nat):Prop:=fV n0 r.cW r.CC r.uN id
def Eu (P:Program) (ops:Array Oper) (nt n0:Nat) (o:Oper) (ao:aq) (st st1:St) (r:Rec) (v:AV):Prop:=
 ∀(φ:gW) (K:Nat->Prop) (h:bz) (w:World) (a:Act) (f:Nat->AV),ck st1.nx φ K h st.nx w->(∀rd,rd∈r.dW->ji n0 h st.H.get rd)->wY φ K w f a->(∀t,t∈ao.zg->f t=ev st.env (.t t))->a.tmps.size=nt->a.defers=[]->
  ∀(next:Act->World->Prop) (Q:Exit->Act->World->Prop),
   (∀a' w',(∃φ' K',c7 st1.nx φ K h st.nx w φ' K' (fun id=>if Touch n0 r id then st1.H.get id else h id) st1.nx w'/\wY φ' K' w' (FN f ao.dst v) a'/\a'.tmps.size=nt/\a'.defers=[])->next a' w')->
   if Region.wanted o (yielded ops a.tmps) then o.wp P a w next Q else next (a.put o.dst undef) w
theorem ER {nt:Nat} {e e':Env} {d:Option Nat} {v:AV} (hp:u5 nt e d v=some e'):(∀t,d=some t->t < nt)/\∀t,ev e' (.t t)=if d=some t then v else ev e (.t t):=by
 cases d with
 |none=>cases hp;exact⟨fun t h=>(by cases h),fun t=>by simp⟩
 |some d=>
  simp only [u5,cond_eq_ite,US] at hp;split at hp
  ·rename_i hd;cases hp;refine⟨fun t h=>by cases h;exact hd,fun t=>?_⟩;rw [Bq];by_cases ht:t=d
   ·subst ht;rw [if_pos rfl,if_pos rfl]
   ·rw [if_neg ht,if_neg (fun h=>ht (U0 h).symm)]
  ·cases hp
theorem gG {P:Program} {ops:Array Oper} {nt n0:Nat} {cf:iy} {o:Oper} {ao:aq} {st st1:St} {r:Rec} (hcf:mz P cf) (hup:nw cf) (hm:jJ P ops o ao=true) (hn0:n0<=st.nx) (hd:cq cf nt n0 ao st=some (st1,r)) :
  (r.H0=st.H/\r.H1=st1.H/\r.CC=st.nx/\r.uN=st1.nx)/\st.nx<=st1.nx/\(∀id,¬Touch n0 r id->st1.H.get id=st.H.get id)/\(fh ao=true->r.dW=[]/\r.cW=.ids [])/\(nZ ao=true->r.cW=.ids [])/\
  ∃v,(∀t,ev st1.env (.t t)=if ao.dst=some t then v else ev st.env (.t t))/\Eu P ops nt n0 o ao st st1 r v:=by
 simp only [jJ,UN] at hm;obtain⟨⟨h1,h2⟩,h3⟩:=hm;have qxw:=EZ h1;unfold cq at hd;rw [cond_eq_ite] at hd;split at hd
 ·rename_i hw;split at hd
  ·cases hd
  ·rename_i v H nx dW cW hE;split at hd
   ·cases hd
   ·rename_i e' hp;cases hd;obtain⟨l1,l2,l3,l4,l5⟩:=Ix hcf hup h3 hn0 hE;obtain⟨p1,p2⟩:=ER hp;refine⟨⟨rfl,rfl,rfl,rfl⟩,l1,l2,l3,l4,v,p2,?_⟩;intro φ K h w a f s ha hf qxN hs hdf next Q hn;have qzU:∀x,x∈ao.op.c4->SE f x=ev st.env x:=by
     intro x hx;cases x with
     |t n=>exact qxN n (List.mem_append_left _ (List.mem_flatMap.2 ⟨_,hx,by simp [OD]⟩))
     |c v=>rfl
    have qx1:kY f ao.gd=true:=by
     rw [←hw,BT];cases hg:ao.gd with
     |none=>rfl
     |some q=>obtain⟨g,b⟩:=q;simp only [kY];rw [qxN g (List.mem_append_right _ (by rw [hg];simp))]
    rw [xu hf h2,if_pos qx1];refine l5 φ K h w a (SE f) s ha hf.Qu qzU next Q (fun V w' hEn=>?_);obtain⟨φ',K',g,hv⟩:=hEn;obtain⟨q1,q2,q3⟩:=Cm (nt:=nt) (d:=ao.dst) (hf.keep s g) hs p1 hv;rw [←qxw] at q1 q2 q3;exact hn _ _ ⟨φ',K',g,by rw [←qxw];exact q1,q2,by rw [q3,hdf]⟩
 ·rename_i hw;split at hd
  ·cases hd
  ·rename_i e' hp;cases hd;obtain⟨p1,p2⟩:=ER hp;have hno:∀id,¬Touch n0 ⟨[],.ids [],st.H,st.H,st.nx,st.nx⟩ id:=fun id h=>h.elim (fun h=>by cases h) (fun h=>by have h':st.nx<=id/\id < st.nx:=h;omega)
   refine⟨⟨rfl,rfl,rfl,rfl⟩,U3 _,fun id _=>rfl,fun _=>⟨rfl,rfl⟩,fun _=>rfl,dQ,p2,?_⟩;intro φ K h w a f s ha hf qxN hs hdf next Q hn;have qx1:kY f ao.gd=false:=by
    have:wanted st.env ao.gd=false:=by simpa using hw
    rw [←this,BT];cases hg:ao.gd with
    |none=>rfl
    |some q=>obtain⟨g,b⟩:=q;simp only [kY];rw [qxN g (List.mem_append_right _ (by rw [hg];simp))]
   rw [xu hf h2,qx1];obtain⟨q1,q2,q3⟩:=Cm (nt:=nt) (d:=ao.dst) hf hs p1 p9;rw [←qxw] at q1 q2 q3;refine hn _ _ ⟨φ,K,?_,by rw [←qxw];exact q1,q2,by rw [q3,hdf]⟩;have e:(fun id=>if Touch n0 ⟨[],.ids [],st.H,st.H,st.nx,st.nx⟩ id then st.H.get id else h id)=h:=by funext id;rw [if_neg (hno id)]
   show c7 st.nx φ K h st.nx w φ K (fun id=>if Touch n0 ⟨[],.ids [],st.H,st.H,st.nx,st.nx⟩ id then st.H.get id else h id) st.nx w;rw [e];exact c7.refl s
theorem trace {cf:iy} {nt n0:Nat}:∀(al:List aq) (st st':St) (rs:List Rec),e8 cf nt n0 al st=some (st',rs)->
  ∃(S:Nat->St) (R:Nat->Rec),S 0=st/\S al.length=st'/\rs.length=al.length/\∀k ao,al[k]?=some ao->rs[k]?=some (R k)/\cq cf nt n0 ao (S k)=some (S (k+1),R k)
 |[],st,st',rs,h=>by cases h;exact⟨fun _=>st,fun _=>⟨[],.ids [],.leaf,.leaf,0,0⟩,rfl,rfl,rfl,fun k ao h=>by simp at h⟩
 |ao::al,st,st',rs,h=>by
  simp only [e8] at h;split at h
  ·cases h
  ·rename_i st1 r h1;split at h
   ·cases h
   ·rename_i st2 l h2;cases h;obtain⟨S,R,s1,s2,s3,s4⟩:=trace al st1 st' l h2;refine⟨fun k=>match k with|0=>st|k+1=>S k,fun k=>match k with|0=>r|k+1=>R k,rfl,s2,by simp [s3],fun k ao' hk=>?_⟩;cases k with
    |zero=>simp at hk;subst hk;exact⟨rfl,by show cq cf nt n0 ao st=some (S 0,r);rw [s1];exact h1⟩
    |succ k=>simp at hk;exact s4 k ao' hk
theorem Ab {P:Program} {ops:Array Oper}:∀{l:List Oper} {al:List aq},iV P ops l al=true->l.length=al.length/\∀(k:Nat) (o:Oper),l[k]?=some o->∃ao,al[k]?=some ao/\jJ P ops o ao=true
 |[],[],_=>⟨rfl,fun k o h=>by simp at h⟩
 |[],_::_,h=>by cases h
 |_::_,[],h=>by cases h
 |o::l,ao::al,h=>by
  simp only [iV,UN] at h;obtain⟨h1,h2⟩:=Ab h.2;refine⟨by simp [h1],fun k o' hk=>?_⟩;cases k with
  |zero=>simp at hk;subst hk;exact⟨ao,rfl,h.1⟩
  |succ k=>simp at hk;exact h2 k o' hk
def F0 (l:List Nat) (n:Nat):Bool:=l.any fun x=>Nat.beq x n
theorem tZ {l:List Nat} {n:Nat}:F0 l n=true↔n∈l:=by simp only [F0,List.any_eq_true,UQ];exact⟨fun ⟨x,h1,h2⟩=>h2▸h1,fun h=>⟨n,h,rfl⟩⟩
def BF (a b:aq):Bool:=
 (match a.dst with|none=>true|some d=>!F0 b.zg d&&(match b.dst with|none=>true|some d'=>!Nat.beq d' d))&&(match b.dst with|none=>true|some d=>!F0 a.zg d)
def KT (pairs:List (Nat×Nat)) (i j:Nat) (a b:aq):Bool:=
 BF a b&&(fh a||fh b||(nZ a&&nZ b)||pairs.any fun p=>Nat.beq p.1 i&&Nat.beq p.2 j)
def D0 (ops:Array Oper) (ahead:List (List Nat)):Bool:=(List.range ops.size).all fun i=>match ops[i]? with
 |none=>false
 |some o=>match ahead[i]? with
  |none=>false
  |some ah=>(o.after.toList.all fun e=>!Region.binds .any e||Nat.blt e.on i)&&
    (ah.all fun x=>o.after.toList.any fun e=>Region.binds .any e&&(Nat.beq e.on x||(match ahead[e.on]? with|some ah'=>F0 ah' x|none=>false)))
def OW (al:List aq) (ahead:List (List Nat)) (pairs:List (Nat×Nat)):Bool:=(List.range al.length).all fun j=>(List.range j).all fun i=>match ahead[j]? with
 |none=>false
 |some ah=>F0 ah i||(match al[i]? with
  |none=>false
  |some a=>match al[j]? with
   |none=>false
   |some b=>KT pairs i j a b)
def E0 (P:Program) (ops:Array Oper) (al:List aq) (ahead:List (List Nat)) (pairs:List (Nat×Nat)):Bool:=
 iV P ops ops.toList al&&Nat.beq ahead.length al.length&&D0 ops ahead&&OW al ahead pairs
end Go.Ax
namespace Go.Ax
open Classical
mutual
theorem Kj:∀(a b:AV),jx a b=true->a=b
 |.bool a,b,h=>by cases b<;>first|(simp only [jx,beq_iff_eq] at h;rw [h])|cases h
 |.int k a,b,h=>by
  cases b<;>first|cases h|skip
  simp only [jx,UN,sy,UT] at h;rw [vN h.1,h.2]
 |.str a,b,h=>by cases b<;>first|(simp only [jx,UT] at h;rw [h])|cases h
 |.qR,b,h=>by cases b<;>first|rfl|cases h
 |.ay,b,h=>by cases b<;>first|rfl|cases h
 |.ptr a1 a2 a3,b,h=>by
  cases b<;>first|cases h|skip
  simp only [jx,UN,UQ] at h;rw [h.1.1,h.1.2,h.2]
 |.ic cs off,b,h=>by
  cases b<;>first|cases h|skip
  simp only [jx,UN,UQ] at h;rw [kQ _ _ h.1,h.2]
 |.ei cs n c,b,h=>by
  cases b<;>first|cases h|skip
  simp only [jx,UN,UQ,UT] at h;rw [kQ _ _ h.1.1,h.1.2,h.2]
 |.ref a1 a2 a3 a4 a5 a6 a7,b,h=>by
  cases b<;>first|cases h|skip
  simp only [jx,UN,UQ,beq_iff_eq] at h;obtain⟨⟨⟨⟨⟨⟨h1,h2⟩,h3⟩,h4⟩,h5⟩,h6⟩,h7⟩:=h;rw [h1,h2,h3,h4,h5,h6,h7]
 |.agg cs,b,h=>by
  cases b<;>first|cases h|skip
  simp only [jx] at h;rw [kQ _ _ h]
 |.iR cs,b,h=>by
  cases b<;>first|cases h|skip
  simp only [jx] at h;rw [kQ _ _ h]
 |.func f,b,h=>by
  cases b<;>first|cases h|skip
  simp only [jx,UQ] at h;rw [h]
 |.nU f,b,h=>by
  cases b<;>first|cases h|skip
  simp only [jx,UQ] at h;rw [h]
theorem kQ:∀(a b:List AV),oU a b=true->a=b
 |[],[],_=>rfl
 |[],_::_,h=>by cases h
 |_::_,[],h=>by cases h
 |x::xs,y::ys,h=>by simp only [oU,UN] at h;rw [Kj _ _ h.1,kQ _ _ h.2]
end
theorem GS {A B C:aU} {r:Di} (h:zQ A B C r=true):dr A (some r)=dr C (some r)/\dr B (some r)=dr C (some r):=by
 unfold zQ at h;split at h
 ·rename_i x y z h1 h2 h3;simp only [UN] at h;rw [h1,h2,h3,kQ _ _ h.1,kQ _ _ h.2];exact⟨rfl,rfl⟩
 ·cases h
structure ux (P:Program) (ops:Array Oper) (nt:Nat) (al:List aq) (ahead:List (List Nat)) (pairs:List (Nat×Nat)) (st st':St) (S:Nat->St) (R:Nat->Rec) (V:Nat->AV):Prop where
 first:S 0=st
 last:S al.length=st'
 len:ops.size=al.length
 DH:∀k,k < al.length->(R k).H0=(S k).H/\(R k).H1=(S (k+1)).H/\(R k).CC=(S k).nx/\(R k).uN=(S (k+1)).nx
 up:∀k,k < al.length->(S k).nx<=(S (k+1)).nx
 rest:∀k,k < al.length->∀id,¬Touch st.nx (R k) id->(S (k+1)).H.get id=(S k).H.get id
 env:∀k ao,al[k]?=some ao->∀t,ev (S (k+1)).env (.t t)=if ao.dst=some t then V k else ev (S k).env (.t t)
 step:∀k o ao,ops[k]?=some o->al[k]?=some ao->Eu P ops nt st.nx o ao (S k) (S (k+1)) (R k) (V k)
 cg:∀(i:Nat) (o:Oper) (e:Edge),ops[i]?=some o->e∈o.after->Region.binds .any e=true->e.on < i
 Ph:∀(i:Nat) (ah:List Nat) (x:Nat),ahead[i]?=some ah->x∈ah->∃(o:Oper) (e:Edge),ops[i]?=some o/\e∈o.after/\Region.binds .any e=true/\(e.on=x\/∃ah',ahead[e.on]?=some ah'/\x∈ah')
 known:∀k,k < al.length->∃ah,ahead[k]?=some ah/\(∀rd,rd∈(R k).dW->∀id,(rd=.obj id\/∃r:Di,rd=.w7 r/\r.id=id)->id < st.nx\/∃i,i∈ah/\i < al.length/\(R i).CC<=id/\id < (R i).uN)/\
  (∀l,(R k).cW=.ids l->∀id,id∈l->id < st.nx\/∃i,i∈ah/\i < al.length/\(R i).CC<=id/\id < (R i).uN)
 pair:∀i j,i < j->j < al.length->(∃ah,ahead[j]?=some ah/\i∈ah)\/∃a b,al[i]?=some a/\al[j]?=some b/\BF a b=true/\
  ((R i).cW=.ids []\/∀rd,rd∈(R j).dW->js (R i) (R j) rd=true)/\((R j).cW=.ids []\/∀rd,rd∈(R i).dW->js (R j) (R i) rd=true)/\apart (R i) (R j)=true
theorem pW {a b:Rec} (h:a.cW=.ids []):apart a b=true:=by unfold apart;rw [h];cases b.cW<;>rfl
theorem wW {a b:Rec} (h:b.cW=.ids []):apart a b=true:=by
 unfold apart;rw [h];cases a.cW with
 |ids l=>simp
 |all=>rfl
theorem Ii {n0:Nat} {rs:List Rec} {ah:List Nat} {id:Nat} (h:CP n0 rs ah id=true):id < n0\/∃i a,i∈ah/\rs[i]?=some a/\a.CC<=id/\id < a.uN:=by
 simp only [CP,UO,US,List.any_eq_true] at h;rcases h with h|⟨i,hi,h⟩
 ·exact .inl h
 ·split at h
  ·rename_i a ha;simp only [UN,UR,US] at h;exact .inr ⟨i,a,hi,ha,h.1,h.2⟩
  ·cases h
theorem wq {n0:Nat} {rs:List Rec}:∀{as:List (List Nat)} {l:List Rec},kr n0 rs as l=true->∀(k:Nat) (r:Rec),l[k]?=some r->∃ah,as[k]?=some ah/\r.dW.all (Hj n0 rs ah)=true/\zw n0 rs ah r.cW=true
 |[],[],_,k,r,h=>by simp at h
 |[],_::_,h,_,_,_=>by cases h
 |_::_,[],h,_,_,_=>by cases h
 |a::as,r0::l,h,k,r,hk=>by
  simp only [kr,UN] at h;cases k with
  |zero=>simp at hk;subst hk;exact⟨a,rfl,h.1.1,h.1.2⟩
  |succ k=>simp at hk;exact wq h.2 k r hk
theorem LG {P:Program} {ops:Array Oper} {nt:Nat} {cf:iy} (hcf:mz P cf) (hup:nw cf) {al:List aq} {ahead:List (List Nat)} {pairs:List (Nat×Nat)} {st st':St} (hm:E0 P ops al ahead pairs=true) (hd:eZ cf nt al ahead pairs st=some st') :
  ∃S R V,ux P ops nt al ahead pairs st st' S R V:=by
 simp only [E0,UN,UQ] at hm;obtain⟨⟨⟨hmo,hal⟩,hme⟩,hma⟩:=hm;obtain⟨hlen,qjG⟩:=Ab hmo;rw [Array.length_toList] at hlen;unfold eZ at hd;split at hd
 ·cases hd
 ·rename_i st2 rs hrun;rw [cond_eq_ite] at hd;split at hd
  ·rename_i qjv;cases hd;simp only [UN] at qjv;obtain⟨hkn,hpr⟩:=qjv;rw [aX] at hpr;obtain⟨S,R,s1,s2,s3,s4⟩:=trace al st st' rs hrun;have hao:∀k,k < al.length->∃o ao,ops[k]?=some o/\al[k]?=some ao/\jJ P ops o ao=true:=by
    intro k hk;have ho:ops.toList[k]?=some ops[k]:=by rw [Array.getElem?_toList,Array.getElem?_eq_getElem (by omega)]
    obtain⟨ao,h1,h2⟩:=qjG k _ ho;exact⟨_,ao,Array.getElem?_eq_getElem (by omega),h1,h2⟩
   have hnx:∀k,k<=al.length->st.nx<=(S k).nx:=by
    intro k
    induction k with
    |zero=>intro _;rw [s1];exact U3 _
    |succ k ih=>intro hk;have ih:=ih (Nat.le_of_succ_le hk);obtain⟨o,ao,h1,h2,h3⟩:=hao k hk;obtain⟨_,h4⟩:=s4 k ao h2;exact U1 ih (gG hcf hup h3 ih h4).2.1
   have hstep:∀k,k < al.length->∃v,∀o ao,ops[k]?=some o->al[k]?=some ao->(∀t,ev (S (k+1)).env (.t t)=if ao.dst=some t then v else ev (S k).env (.t t))/\Eu P ops nt st.nx o ao (S k) (S (k+1)) (R k) v:=by intro k hk;obtain⟨o,ao,h1,h2,h3⟩:=hao k hk;obtain⟨_,h4⟩:=s4 k ao h2;obtain⟨_,_,_,_,_,v,h5,h6⟩:=gG hcf hup h3 (hnx k (Nat.le_of_lt hk)) h4;refine⟨v,fun o' ao' h1' h2'=>?_⟩;rw [h1] at h1';rw [h2] at h2';cases h1';cases h2';exact⟨h5,h6⟩
   refine⟨S,R,fun k=>if hk:k < al.length then Classical.choose (hstep k hk) else dQ,⟨s1,s2,hlen,fun k hk=>?_,fun k hk=>?_,fun k hk=>?_,fun k ao qzB=>?_,fun k o ao ho qzB=>?_,fun i o e hi he hb=>?_,fun i ah x hi hx=>?_,fun k hk=>?_,fun i j hij hj=>?_⟩⟩
   ·obtain⟨o,ao,h1,h2,h3⟩:=hao k hk;exact(gG hcf hup h3 (hnx k (Nat.le_of_lt hk)) (s4 k ao h2).2).1
   ·obtain⟨o,ao,h1,h2,h3⟩:=hao k hk;exact(gG hcf hup h3 (hnx k (Nat.le_of_lt hk)) (s4 k ao h2).2).2.1
   ·obtain⟨o,ao,h1,h2,h3⟩:=hao k hk;exact(gG hcf hup h3 (hnx k (Nat.le_of_lt hk)) (s4 k ao h2).2).2.2.1
   ·have hk:k < al.length:=(Uo.1 qzB).1;rw [dif_pos hk];obtain⟨o,ao2,h1,h2,h3⟩:=hao k hk;exact(Classical.choose_spec (hstep k hk) o ao h1 qzB).1
   ·have hk:k < al.length:=(Uo.1 qzB).1;rw [dif_pos hk];exact(Classical.choose_spec (hstep k hk) o ao ho qzB).2
   ·have hio:i < ops.size:=(Array.getElem?_eq_some_iff.1 hi).1;simp only [D0,UM,List.mem_range] at hme;have:=hme i hio;rw [hi] at this;simp only at this;split at this
    ·cases this
    ·simp only [UN,UM] at this;have h1:=this.1 e (Array.mem_toList_iff.2 he);rw [hb] at h1;simpa [US] using h1
   ·have hia:i < ahead.length:=(Uo.1 hi).1;have hio:i < ops.size:=by omega
    simp only [D0,UM,List.mem_range] at hme;have:=hme i hio;rw [Array.getElem?_eq_getElem hio,hi] at this;simp only [UN,UM,List.any_eq_true,UO,UQ] at this;obtain⟨e,he1,he2,he3⟩:=this.2 x hx;refine⟨_,e,Array.getElem?_eq_getElem hio,Array.mem_toList_iff.1 he1,he2,?_⟩;rcases he3 with he3|he3
    ·exact .inl he3
    ·split at he3
     ·rename_i ah' qjP;exact .inr ⟨ah',qjP,tZ.1 he3⟩
     ·cases he3
   ·obtain⟨o,ao,h1,h2,h3⟩:=hao k hk;obtain⟨h4,_⟩:=s4 k ao h2;obtain⟨ah,h5,h6,h7⟩:=wq hkn k _ h4;have conv:∀id,CP st.nx rs ah id=true->id < st.nx\/∃i,i∈ah/\i < al.length/\(R i).CC<=id/\id < (R i).uN:=by
     intro id hid;rcases Ii hid with h8|⟨i,a,q1,q2,q3,q4⟩
     ·exact .inl h8
     ·have hi:i < al.length:=by rw [←s3];exact(Uo.1 q2).1
      obtain⟨_,ao',_,h9,_⟩:=hao i hi;obtain⟨h10,_⟩:=s4 i ao' h9;rw [q2] at h10;cases h10;exact .inr ⟨i,q1,hi,q3,q4⟩
    rw [UM] at h6;refine⟨ah,h5,fun rd hrd id hid=>?_,fun l hl id hid=>?_⟩
    ·have h8:=h6 rd hrd;rcases hid with rfl|⟨r,rfl,rfl⟩
     ·exact conv _ h8
     ·exact conv _ h8
    ·rw [hl] at h7;simp only [zw,UM] at h7;exact conv _ (h7 id hid)
   ·simp only [OW,UM,List.mem_range] at hma;have:=hma j hj i hij;split at this
    ·cases this
    ·rename_i ah hah;simp only [UO] at this;rcases this with h1|h1
     ·exact .inl ⟨ah,hah,tZ.1 h1⟩
     ·right;obtain⟨oi,ai,p1,p2,p3⟩:=hao i (by omega);obtain⟨oj,aj,r1,r2,r3⟩:=hao j hj;rw [p2,r2] at h1;simp only [KT,UN,UO] at h1;obtain⟨h2,h3⟩:=h1;have e1:=gG hcf hup p3 (hnx i (by omega)) (s4 i ai p2).2;have e2:=gG hcf hup r3 (hnx j (by omega)) (s4 j aj r2).2;refine⟨ai,aj,p2,r2,h2,?_⟩;rcases h3 with ((h3|h3)|h3)|h3
      ·obtain⟨q1,q2⟩:=e1.2.2.2.1 h3;exact⟨.inl q2,.inr (by rw [q1];intro rd hrd;cases hrd),pW q2⟩
      ·obtain⟨q1,q2⟩:=e2.2.2.2.1 h3;exact⟨.inr (by rw [q1];intro rd hrd;cases hrd),.inl q2,wW q2⟩
      ·have q1:=e1.2.2.2.2.1 h3.1;have q2:=e2.2.2.2.2.1 h3.2;exact⟨.inl q1,.inl q2,pW q1⟩
      ·rw [List.any_eq_true] at h3;obtain⟨p,hp1,hp2⟩:=h3;simp only [UN,UQ] at hp2;have h4:=hpr p hp1;unfold j9 at h4;rw [hp2.1,hp2.2,(s4 i ai p2).1,(s4 j aj r2).1] at h4;simp only [UN,still,aX] at h4;exact⟨.inr h4.1.1,.inr h4.1.2,h4.2⟩
  ·cases hd
end Go.Ax
namespace Go.Ax
open Classical
def Wr (al:List aq) (k t:Nat):Prop:=∃ao,al[k]?=some ao/\ao.dst=some t
def Ah (ahead:List (List Nat)) (j i:Nat):Prop:=∃ah,ahead[j]?=some ah/\i∈ah
def Gw (ops:Array Oper) (L:Nat->Bool) (i:Nat):Prop:=∀(o:Oper) (e:Edge),ops[i]?=some o->e∈o.after->Region.binds .any e=true->L e.on=true
section
variable {P:Program} {ops:Array Oper} {nt:Nat} {al:List aq} {ahead:List (List Nat)} {pairs:List (Nat×Nat)} {st st':St} {S:Nat->St} {R:Nat->Rec} {V:Nat->AV}
theorem ux.SD (hr:ux P ops nt al ahead pairs st st' S R V) {L:Nat->Bool} (hL:∀i,L i=true->Gw ops L i):∀(i x:Nat),Gw ops L i->Ah ahead i x->L x=true:=by
 intro i
 induction i using Nat.strongRecOn with
 |_ i ih=>
  rintro x hf ⟨ah,h1,h2⟩;obtain⟨o,e,ho,he,hb,h3⟩:=hr.Ph i ah x h1 h2;have hLe:=hf o e ho he hb;rcases h3 with rfl|⟨ah',h4,h5⟩
  ·exact hLe
  ·exact ih e.on (hr.cg i o e ho he hb) x (hL _ hLe) ⟨ah',h4,h5⟩
theorem ux.lt (hr:ux P ops nt al ahead pairs st st' S R V):∀(i x:Nat),Ah ahead i x->x < i:=by
 intro i
 induction i using Nat.strongRecOn with
 |_ i ih=>
  rintro x ⟨ah,h1,h2⟩;obtain⟨o,e,ho,he,hb,h3⟩:=hr.Ph i ah x h1 h2;have hlt:=hr.cg i o e ho he hb;rcases h3 with rfl|⟨ah',h4,h5⟩
  ·exact hlt
  ·exact Nat.lt_trans (ih e.on hlt x ⟨ah',h4,h5⟩) hlt
theorem ux.mono (hr:ux P ops nt al ahead pairs st st' S R V):∀(j i:Nat),i<=j->j<=al.length->(S i).nx<=(S j).nx:=by
 intro j
 induction j with
 |zero=>intro i hi _;rw [Nat.le_zero.1 hi];exact U3 _
 |succ j ih=>
  intro i hi hj;rcases Nat.lt_or_ge i (j+1) with h|h
  ·exact U1 (ih i (by omega) (by omega)) (hr.up j (by omega))
  ·rw [show i=j+1 by omega];exact U3 _
theorem ux.base (hr:ux P ops nt al ahead pairs st st' S R V) (j:Nat) (hj:j<=al.length):st.nx<=(S j).nx:=by have:=hr.mono j 0 (U2 _) hj;rwa [hr.first] at this
def Jd (R:Nat->Rec) (k id:Nat):Prop:=(R k).CC<=id/\id < (R k).uN
theorem ux.tP (hr:ux P ops nt al ahead pairs st st' S R V) {i k id:Nat} (hi:i < al.length) (hk:k < al.length) (h1:Jd R i id) (h2:Jd R k id):i=k:=by
 have key:∀{i k:Nat},k < al.length->Jd R i id->Jd R k id->i < al.length->¬i < k:=by intro i k hk h1 h2 hi hlt;obtain⟨_,_,e1,e2⟩:=hr.DH i hi;obtain⟨_,_,e3,e4⟩:=hr.DH k hk;have:=hr.mono k (i+1) hlt (Nat.le_of_lt hk);have a:=h1.2;have b:=h2.1;rw [e2] at a;rw [e3] at b;omega
 have a:=key hk h1 h2 hi;have b:=key hi h2 h1 hk;omega
theorem ux.Bg (hr:ux P ops nt al ahead pairs st st' S R V) {k id:Nat} (hk:k < al.length) (h:Jd R k id):st.nx<=id:=by obtain⟨_,_,e1,_⟩:=hr.DH k hk;have:=hr.base k (Nat.le_of_lt hk);have a:=h.1;rw [e1] at a;omega
noncomputable def hS (st:St) (S:Nat->St) (R:Nat->Rec) (n:Nat) (L:Nat->Bool):bz:=gM (fun k id=>Touch st.nx (R k) id) st.H.get (fun k id=>(S (k+1)).H.get id) L n
noncomputable def eS (st:St) (S:Nat->St) (al:List aq) (L:Nat->Bool):Nat->AV:=gM (fun k t=>Wr al k t) (fun t=>ev st.env (.t t)) (fun k t=>ev (S (k+1)).env (.t t)) L al.length
theorem ux.hz (hr:ux P ops nt al ahead pairs st st' S R V):∀k,k < al.length->∀id,(S (k+1)).H.get id=if Touch st.nx (R k) id then (S (k+1)).H.get id else (S k).H.get id:=by
 intro k hk id;by_cases h:Touch st.nx (R k) id
 ·rw [if_pos h]
 ·rw [if_neg h];exact hr.rest k hk id h
theorem ux.ez (hr:ux P ops nt al ahead pairs st st' S R V):∀k,k < al.length->∀t,ev (S (k+1)).env (.t t)=if Wr al k t then ev (S (k+1)).env (.t t) else ev (S k).env (.t t):=by
 intro k hk t;by_cases h:Wr al k t
 ·rw [if_pos h]
 ·rw [if_neg h];have ha:al[k]?=some al[k]:=Un hk;rw [hr.env k _ ha t,if_neg (fun hd=>h ⟨_,ha,hd⟩)]
theorem ux.free (hr:ux P ops nt al ahead pairs st st' S R V) {j k:Nat} (hj:j < al.length) (hk:k < al.length) (hne:k≠j) (h1:¬Ah ahead j k) (h2:¬Ah ahead k j) :
  ((R k).cW=.ids []\/∀rd,rd∈(R j).dW->js (R k) (R j) rd=true)/\(∀id,¬((match (R j).cW with|.ids l=>id∈l|.all=>id < st.nx)/\(match (R k).cW with|.ids l=>id∈l|.all=>id < st.nx)))/\
  ∃a b,al[k]?=some a/\al[j]?=some b/\(∀d,a.dst=some d->d ∉ b.zg)/\(∀d,b.dst=some d->d ∉ a.zg)/\(∀d,a.dst=some d->b.dst≠some d):=by
 have apart_spec:∀{x y:Rec},apart x y=true->∀id,¬((match x.cW with|.ids l=>id∈l|.all=>id < st.nx)/\(match y.cW with|.ids l=>id∈l|.all=>id < st.nx)):=by
  intro x y h id ⟨q1,q2⟩;unfold apart at h;split at h
  ·rename_i l l' e1 e2;rw [e1] at q1;rw [e2] at q2;rw [UM] at h;have:=h id q1;simp at this;exact this q2
  ·rename_i e1 e2;rw [e2] at q2;cases q2
  ·rename_i e1 e2;rw [e1] at q1;cases q1
  ·cases h
 have apartT_spec:∀{a b:aq},BF a b=true->(∀d,a.dst=some d->d ∉ b.zg)/\(∀d,b.dst=some d->d ∉ a.zg)/\(∀d,a.dst=some d->b.dst≠some d):=by
  intro a b h;simp only [BF,UN] at h;refine⟨fun d hd hm=>?_,fun d hd hm=>?_,fun d hd he=>?_⟩
  ·rw [hd] at h;simp only [UN,UP] at h;rw [tZ.2 hm] at h;cases h.1.1
  ·rw [hd] at h;have h2:=h.2;simp only [UP] at h2;rw [tZ.2 hm] at h2;cases h2
  ·rw [hd,he] at h;have h2:=h.1;simp only [UN,UP] at h2;have h3:=h2.2;rw [show Nat.beq d d=true by rw [UQ]] at h3;cases h3
 rcases Nat.lt_or_ge k j with hlt|hge
 ·rcases hr.pair k j hlt hj with h|⟨a,b,q1,q2,q3,q4,q5,q6⟩
  ·exact absurd h h1
  ·refine⟨q4,fun id h=>apart_spec q6 id ⟨h.2,h.1⟩,a,b,q1,q2,apartT_spec q3⟩
 ·rcases hr.pair j k (by omega) hk with h|⟨b,a,q1,q2,q3,q4,q5,q6⟩
  ·exact absurd h h2
  ·obtain⟨r1,r2,r3⟩:=apartT_spec q3;exact⟨q5,apart_spec q6,a,b,q2,q1,r2,r1,fun d hd hb=>r3 d hb hd⟩
theorem ux.Po (hr:ux P ops nt al ahead pairs st st' S R V) {L:Nat->Bool} (hL:∀i,L i=true->Gw ops L i) {j:Nat} (hj:j < al.length) (hLj:L j=false) (qzy:Gw ops L j) :
  (∀rd,rd∈(R j).dW->ji st.nx (hS st S R al.length L) (S j).H.get rd)/\∀ao,al[j]?=some ao->∀t,t∈ao.zg->eS st S al L t=ev (S j).env (.t t):=by
 have qxZ:∀k,Ah ahead j k->k < j/\L k=true:=fun k h=>⟨hr.lt j k h,hr.SD hL j k qzy h⟩
 have hfree:∀k,k < al.length->k≠j->¬Ah ahead j k->(L k=true\/k < j)->¬Ah ahead k j:=by
  intro k hk hne h1 h2 h3;have:=hr.lt k j h3;rcases h2 with h2|h2
  ·rw [hr.SD hL k j (hL k h2) h3] at hLj;cases hLj
  ·omega
 obtain⟨ahj,qjd,qz1,_⟩:=hr.known j hj;refine⟨fun rd hrd=>?_,fun ao hao t ht=>?_⟩
 ·have main:∀(id:Nat) {β:Type} (f:Option fZ->β),(∀k,k < al.length->k≠j->¬Ah ahead j k->Jd R k id->False)->
    (∀k,k < al.length->k≠j->(match (R k).cW with|.ids l=>id∈l|.all=>id < st.nx)->((R k).cW=.ids []\/∀rd,rd∈(R j).dW->js (R k) (R j) rd=true)->f ((S k).H.get id)=f ((S j).H.get id)/\f ((S (k+1)).H.get id)=f ((S j).H.get id))->
    f (hS st S R al.length L id)=f ((S j).H.get id):=by
   intro id β f hnew qzP;refine yo f (fun k id=>(S k).H.get id) (by funext id;rw [hr.first]) hr.hz id hj hLj (Ah ahead j) (fun k hk hne ht=>?_);by_cases ha:Ah ahead j k
   ·exact .inl (qxZ k ha)
   ·right;intro hor;rcases ht with ht|ht
    ·exact qzP k hk hne ht (hr.free hj hk hne ha (hfree k hk hne ha hor)).1
    ·exact(hnew k hk hne ha ht).elim
  have hnew:∀id,(rd=.obj id\/∃r:Di,rd=.w7 r/\r.id=id)->∀k,k < al.length->k≠j->¬Ah ahead j k->Jd R k id->False:=by
   intro id hid k hk hne ha hn;rcases qz1 rd hrd id hid with h|⟨i,hi1,hi2,hi3,hi4⟩
   ·have:=hr.Bg hk hn;omega
   ·have:=hr.tP hi2 hk ⟨hi3,hi4⟩ hn;subst this;exact ha ⟨ahj,qjd,hi1⟩
  cases rd with
  |w7 r=>
   refine main r.id (fun ob=>match ob with|some (.row g cells)=>bif Nat.beq g r.g then cut cells r.off r.len else none|_=>none) (hnew r.id (.inr ⟨r,rfl,rfl⟩)) (fun k hk hne ht hs=>?_);rcases hs with hs|hs
   ·rw [hs] at ht;cases ht
   ·have h1:=hs _ hrd;simp only [js] at h1;obtain⟨e1,e2,_,_⟩:=hr.DH k hk;obtain⟨e3,_,_,_⟩:=hr.DH j hj;have fin:zQ (R k).H0 (R k).H1 (R j).H0 r=true->_:=fun h=>by have h2:=GS h;rw [e1,e2,e3] at h2;exact h2
    split at h1
    ·rename_i l hl;rw [hl] at ht;rw [cond_eq_ite,if_pos (by simpa using ht)] at h1;exact fin h1
    ·exact fin h1
  |obj id=>
   refine main id (fun ob=>ob) (hnew id (.inl rfl)) (fun k hk hne ht hs=>?_);exfalso;rcases hs with hs|hs
   ·rw [hs] at ht;cases ht
   ·have h1:=hs _ hrd;simp only [js] at h1;split at h1
    ·rename_i l hl;rw [hl] at ht;simp at h1;exact h1 ht
    ·cases h1
  |all=>
   intro id hid;refine main id (fun ob=>ob) (fun k hk hne ha hn=>by have:=hr.Bg hk hn;omega) (fun k hk hne ht hs=>?_);exfalso;rcases hs with hs|hs
   ·rw [hs] at ht;cases ht
   ·have h1:=hs _ hrd;simp only [js] at h1;split at h1
    ·rename_i hl;rw [hl] at ht;cases ht
    ·cases h1
 ·refine yo (fun v=>v) (fun k t=>ev (S k).env (.t t)) (by funext t;rw [hr.first]) hr.ez t hj hLj (Ah ahead j) (fun k hk hne hw=>?_);by_cases ha:Ah ahead j k
  ·exact .inl (qxZ k ha)
  ·right;intro hor;exfalso;obtain⟨_,_,a,b,q1,q2,q3,_⟩:=hr.free hj hk hne ha (hfree k hk hne ha hor);obtain⟨a',h1,h2⟩:=hw;rw [q1] at h1;cases h1;rw [hao] at q2;cases q2;exact q3 t h2 ht
theorem ux.put (hr:ux P ops nt al ahead pairs st st' S R V) {L L':Nat->Bool} (hL:∀i,L i=true->Gw ops L i) {j:Nat} (hj:j < al.length) (hLj:L j=false) (qzy:Gw ops L j) (hj1:L' j=true) (hj2:∀k,k≠j->L' k=L k) :
  (hS st S R al.length L'=fun id=>if Touch st.nx (R j) id then (S (j+1)).H.get id else hS st S R al.length L id)/\∀ao,al[j]?=some ao->eS st S al L'=FN (eS st S al L) ao.dst (V j):=by
 have hno:∀k,j < k->L k=true->¬Ah ahead j k/\¬Ah ahead k j:=fun k hk hLk=>⟨fun h=>by have:=hr.lt j k h;omega,fun h=>by rw [hr.SD hL k j (hL k hLk) h] at hLj;cases hLj⟩
 refine⟨funext fun id=>?_,fun ao hao=>funext fun t=>?_⟩
 ·refine Ad hj hLj hj1 hj2 id (fun ht k hjk hk hLk htk=>?_);obtain⟨n1,n2⟩:=hno k hjk hLk;obtain⟨_,hap,_⟩:=hr.free hj hk (by omega) n1 n2;obtain⟨ahj,qjd,_,hkj⟩:=hr.known j hj;obtain⟨ahk,qjO,_,hkk⟩:=hr.known k hk;have old:∀{m:Nat} {ahm:List Nat},ahead[m]?=some ahm->(∀l,(R m).cW=.ids l->∀id,id∈l->id < st.nx\/∃i,i∈ahm/\i < al.length/\(R i).CC<=id/\id < (R i).uN)->(match (R m).cW with|.ids l=>id∈l|.all=>id < st.nx)->∀p,p < al.length->Jd R p id->Ah ahead m p:=by
   intro m ahm hm hk1 ht1 p hp hn;have hge:=hr.Bg hp hn;cases htm:(R m).cW with
   |all=>rw [htm] at ht1;have ht1':id < st.nx:=ht1;omega
   |ids l=>
    rw [htm] at ht1;rcases hk1 l htm id ht1 with h|⟨i,hi1,hi2,hi3,hi4⟩
    ·omega
    ·have:=hr.tP hi2 hp ⟨hi3,hi4⟩ hn;subst this;exact⟨ahm,hm,hi1⟩
  rcases ht with ht|ht
  ·rcases htk with htk|htk
   ·exact hap id ⟨ht,htk⟩
   ·exact n1 (old qjd hkj ht k hk htk)
  ·rcases htk with htk|htk
   ·exact n2 (old qjO hkk htk j hj ht)
   ·have:=hr.tP hj hk ht htk;omega
 ·have h1:=Ad (T:=fun k t=>Wr al k t) (x0:=fun t=>ev st.env (.t t)) (y:=fun k t=>ev (S (k+1)).env (.t t)) hj hLj hj1 hj2 t (fun ht k hjk hk hLk htk=>by obtain⟨n1,n2⟩:=hno k hjk hLk;obtain⟨_,_,a,b,q1,q2,_,_,q3⟩:=hr.free hj hk (by omega) n1 n2;obtain⟨a',h1,h2⟩:=htk;obtain⟨b',h3,h4⟩:=ht;rw [q1] at h1;cases h1;rw [q2] at h3;cases h3;exact q3 t h2 h4)
  show gM _ _ _ L' al.length t=_;rw [h1];simp only [FN];by_cases hd:ao.dst=some t
  ·rw [if_pos ⟨ao,hao,hd⟩,if_pos hd,hr.env j ao hao t,if_pos hd]
  ·rw [if_neg (fun ⟨ao',h1,h2⟩=>hd (by rw [hao] at h1;cases h1;exact h2)),if_neg hd];rfl
theorem ux.IV (hr:ux P ops nt al ahead pairs st st' S R V) {L:Nat->Bool} (hL:∀k,k < al.length->L k=true):hS st S R al.length L=st'.H.get/\eS st S al L=fun t=>ev st'.env (.t t):=by
 constructor
 ·have h:=yp (T:=fun k id=>Touch st.nx (R k) id) (x0:=st.H.get) (y:=fun k id=>(S (k+1)).H.get id) (L:=L) (n:=al.length) (fun k id=>(S k).H.get id) (by funext id;rw [hr.first]) hr.hz hL;show gM _ _ _ L al.length=_;rw [h,hr.last]
 ·have h:=yp (T:=fun k t=>Wr al k t) (x0:=fun t=>ev st.env (.t t)) (y:=fun k t=>ev (S (k+1)).env (.t t)) (L:=L) (n:=al.length) (fun k t=>ev (S k).env (.t t)) (by funext id;rw [hr.first]) hr.ez hL;show gM _ _ _ L al.length=_;rw [h,hr.last]
end
end Go.Ax
namespace Go.Ax
open Classical
section
variable {top:Nat} {φ φ' φ1:gW} {K K' K1:Nat->Prop} {h h' h1:bz} {nx nx' a b:Nat} {w w' w1:World}
theorem c7.zero (g:c7 top φ K h nx w φ' K' h' nx' w') (ha:a<=nx) (hb:nx'<=b):c7 0 φ K h a w φ' K' h' b w':=by
 have hle:=g.nx;refine⟨g.FO,g.k,⟨g.j4.nX,g.j4.row,g.j4.map,g.j4.inj,fun id ob hh=>⟨fun hx=>by omega,(g.j4.low id ob hh).2⟩,fun id gg _ hx=>by omega⟩,g.ext,g.mu,g.zl,fun id gg p hp=>?_,fun id hd=>?_,by omega⟩
 ·rcases g.fr id gg p hp with q|q|q
  ·exact .inl q
  ·exact .inr (.inl (by omega))
  ·exact .inr (.inr q)
 ·rcases g.dom id hd with q|q
  ·exact .inl q
  ·exact .inr (by omega)
theorem c7.two (g:c7 0 φ K h a w φ1 K1 h1 b w1) (g':c7 0 φ1 K1 h1 a w1 φ' K' h' b w'):c7 0 φ K h a w φ' K' h' b w':=by
 refine⟨fun id gg p hp=>g'.FO _ _ _ (g.FO _ _ _ hp),fun b hb=>g'.k b (g.k b hb),g'.j4,g.ext.trans g'.ext g.mu,fun b hb=>(g'.mu b hb).elim (g.mu b) (fun hl=>.inr (U1 g.ext.size hl)),fun b hb=>?_,fun id gg p hp=>?_,fun id hd=>?_,g.nx⟩
 ·rcases g'.zl b hb with h1|h1|h1
  ·exact g.zl b h1
  ·exact .inr (.inl (U1 g.ext.size h1))
  ·rcases g.mu b h1 with h2|h2
   ·exact .inr (.inr h2)
   ·exact .inr (.inl h2)
 ·rcases g'.fr id gg p hp with q|q|q
  ·exact g.fr id gg p q
  ·exact .inr (.inl q)
  ·rcases g.dom id q with r|r
   ·exact .inr (.inr r)
   ·exact .inr (.inl r)
 ·rcases g'.dom id hd with q|q
  ·exact g.dom id q
  ·exact .inr q
theorem ck.Gy (s:ck 0 φ K h nx w) (hn:∀id,a<=id->id < b->(∀g,φ id g=none)/\h id=none):ck b φ K h a w:=
 ⟨s.nX,s.row,s.map,s.inj,fun id ob hh=>⟨fun hx=>(by rw [(hn id hx.1 hx.2).2] at hh;cases hh),(s.low id ob hh).2⟩,fun id g h1 h2=>(hn id h1 h2).1 g⟩
theorem c7.back (s:ck top φ K h nx w) (g:c7 0 φ K h nx w φ' K' h' nx' w'):c7 top φ K h nx w φ' K' h' nx' w':=by
 have hle:=g.nx;have hnone:∀id,nx'<=id->id < top->(∀gg,φ' id gg=none)/\h' id=none:=by
  intro id h1 h2;have hh:h id=none:=by
   cases hh:h id with
   |none=>rfl
   |some ob=>exact absurd ⟨by omega,h2⟩ (s.low id ob hh).1
  refine⟨fun gg=>?_,?_⟩
  ·cases hp:φ' id gg with
   |none=>rfl
   |some p=>
    rcases g.fr id gg p hp with q|q|q
    ·rw [s.new id gg (by omega) h2] at q;cases q
    ·omega
    ·rw [hh] at q;cases q
  ·cases hp:h' id with
   |none=>rfl
   |some p=>
    rcases g.dom id (by rw [hp];rfl) with q|q
    ·rw [hh] at q;cases q
    ·omega
 exact⟨g.FO,g.k,g.j4.Gy hnone,g.ext,g.mu,g.zl,g.fr,g.dom,g.nx⟩
end
def cnt (L:Nat->Bool):Nat->Nat
 |0=>0
 |k+1=>cnt L k+(if L k then 0 else 1)
theorem Fq {L L':Nat->Bool} {j:Nat} (hLj:L j=false) (hj1:L' j=true) (hj2:∀k,k≠j->L' k=L k):∀n,cnt L' n+(if j < n then 1 else 0)=cnt L n
 |0=>rfl
 |n+1=>by
  have ih:=Fq hLj hj1 hj2 n;simp only [cnt];by_cases hn:n=j
  ·subst hn;rw [hLj,hj1];simp at ih ⊢;omega
  ·rw [hj2 n hn];by_cases h1:j < n
   ·rw [if_pos h1] at ih;rw [if_pos (show j < n+1 by omega)];omega
   ·rw [if_neg h1] at ih;rw [if_neg (show ¬j < n+1 by omega)];omega
theorem C8 {L:Nat->Bool}:∀n,cnt L n=0->∀k,k < n->L k=true
 |0,_,k,hk=>by omega
 |n+1,h,k,hk=>by
  simp only [cnt] at h;rcases Nat.lt_or_ge k n with h1|h1
  ·exact C8 n (by omega) k h1
  ·obtain rfl:k=n:=by omega
   cases hl:L k with
   |true=>rfl
   |false=>rw [hl] at h;simp at h
theorem IE (L:Nat->Bool):∀n,cnt L n<=n
 |0=>U3 _
 |n+1=>by have:=IE L n;simp only [cnt];split<;>omega
section
variable {P:Program} {ops:Array Oper} {nt:Nat} {al:List aq} {ahead:List (List Nat)} {pairs:List (Nat×Nat)} {st st':St} {S:Nat->St} {R:Nat->Rec} {V:Nat->AV} {φ0:gW} {K0:Nat->Prop} {w0:World}
def Inv (φ0:gW) (K0:Nat->Prop) (w0:World) (nt:Nat) (al:List aq) (st st':St) (S:Nat->St) (R:Nat->Rec) (L:Nat->Bool) (a:Act) (w:World):Prop:=
 ∃φ K,c7 0 φ0 K0 st.H.get st.nx w0 φ K (hS st S R al.length L) st'.nx w/\(∀k,k < al.length->L k=false->∀id,Jd R k id->(∀g,φ id g=none)/\hS st S R al.length L id=none)/\wY φ K w (eS st S al L) a/\a.tmps.size=nt/\a.defers=[]
theorem ux.one (hr:ux P ops nt al ahead pairs st st' S R V) {L L':Nat->Bool} (hL:∀i,L i=true->Gw ops L i) {j:Nat} (hj:j < al.length) (hLj:L j=false) (qzy:Gw ops L j) (hj1:L' j=true) (hj2:∀k,k≠j->L' k=L k)
  {a:Act} {w:World} (hI:Inv φ0 K0 w0 nt al st st' S R L a w) {o:Oper} (ho:ops[j]?=some o) (next:Act->World->Prop) (Q:Exit->Act->World->Prop) (hn:∀a' w',Inv φ0 K0 w0 nt al st st' S R L' a' w'->next a' w') :
  if Region.wanted o (yielded ops a.tmps) then o.wp P a w next Q else next (a.put o.dst undef) w:=by
 obtain⟨φ,K,g,hnew,qxq,hs,hd⟩:=hI;have hao:al[j]?=some al[j]:=Un hj;obtain⟨_,_,e3,e4⟩:=hr.DH j hj;have qx3:∀id,(S j).nx<=id->id < (S (j+1)).nx->Jd R j id:=fun id h1 h2=>⟨by rw [e3];exact h1,by rw [e4];exact h2⟩
 obtain⟨ag1,ag2⟩:=hr.Po hL hj hLj qzy;obtain⟨pt1,pt2⟩:=hr.put hL hj hLj qzy hj1 hj2;refine hr.step j o _ ho hao φ K (hS st S R al.length L) w a (eS st S al L) (g.j4.Gy (fun id h1 h2=>hnew j hj hLj id (qx3 id h1 h2))) ag1 qxq (ag2 _ hao) hs hd next Q (fun a' w' hp=>hn a' w' ?_);obtain⟨φ',K',g',qxy,hs',hd'⟩:=hp;rw [←pt1] at g';rw [←pt2 _ hao] at qxy;have hb2:(S (j+1)).nx<=st'.nx:=by rw [←hr.last];exact hr.mono _ _ hj (U3 _)
 have g0:=g'.zero (a:=st.nx) (b:=st'.nx) (hr.base j (Nat.le_of_lt hj)) hb2;refine⟨φ',K',g.two g0,fun k hk hLk id hid=>?_,qxy,hs',hd'⟩;have hkj:k≠j:=by rintro rfl;rw [hj1] at hLk;cases hLk
 rw [hj2 k hkj] at hLk;obtain⟨n1,n2⟩:=hnew k hk hLk id hid;refine⟨fun gg=>?_,?_⟩
 ·cases hp:φ' id gg with
  |none=>rfl
  |some p=>
   rcases g'.fr id gg p hp with q|q|q
   ·rw [n1] at q;cases q
   ·exact absurd (hr.tP hk hj hid (qx3 id q.1 q.2)) hkj
   ·rw [n2] at q;cases q
 ·cases hp:hS st S R al.length L' id with
  |none=>rfl
  |some p=>
   rcases g'.dom id (by rw [hp];rfl) with q|q
   ·rw [n2] at q;cases q
   ·exact absurd (hr.tP hk hj hid (qx3 id q.1 q.2)) hkj
theorem mem_ready {listed:Array Bool} {i:Nat} (hs:listed.size=ops.size):i∈Region.ready .any ops listed↔i < ops.size/\listed.getD i false=false/\Gw ops (fun k=>listed.getD k false) i:=by
 simp only [Region.ready,List.mem_filter,List.mem_range,UN,UP];constructor
 ·rintro⟨h1,h2,h3⟩;have ho:ops[i]?=some ops[i]:=Array.getElem?_eq_getElem h1;rw [ho] at h3;simp only [Option.map_some,Option.getD_some] at h3;rw [Array.all_eq_true_iff_forall_mem] at h3;refine⟨h1,?_,fun o e ho' he hb=>?_⟩
  ·rw [Array.getD_eq_getD_getElem?,Array.getElem?_eq_getElem (by omega)] at h2 ⊢;exact h2
  ·rw [ho] at ho';cases ho';have:=h3 e he;rw [hb] at this;simpa using this
 ·rintro⟨h1,h2,h3⟩;have ho:ops[i]?=some ops[i]:=Array.getElem?_eq_getElem h1;refine⟨h1,?_,?_⟩
  ·rw [Array.getD_eq_getD_getElem?,Array.getElem?_eq_getElem (by omega)] at h2 ⊢;exact h2
  ·rw [ho];simp only [Option.map_some,Option.getD_some];rw [Array.all_eq_true_iff_forall_mem];intro e he;cases hb:Region.binds .any e with
   |false=>rfl
   |true=>simpa using h3 _ e ho he hb
theorem ux.any (hr:ux P ops nt al ahead pairs st st' S R V) {Q:Exit->Act->World->Prop} (hQ:∀a w,(∃φ K,c7 0 φ0 K0 st.H.get st.nx w0 φ K st'.H.get st'.nx w/\wY φ K w (fun t=>ev st'.env (.t t)) a/\a.tmps.size=nt/\a.defers=[])->Q .normal a w) :
  ∀(fuel:Nat) (listed:Array Bool) (a:Act) (w:World),listed.size=ops.size->(∀i,listed.getD i false=true->Gw ops (fun k=>listed.getD k false) i)->cnt (fun k=>listed.getD k false) al.length<=fuel->Inv φ0 K0 w0 nt al st st' S R (fun k=>listed.getD k false) a w->wpAny P .any ops Q fuel listed a w:=by
 have hlen:=hr.len;have fin:∀(L:Nat->Bool) (a:Act) (w:World),(∀k,k < al.length->L k=true)->Inv φ0 K0 w0 nt al st st' S R L a w->Q .normal a w:=by intro L a w hall hI;obtain⟨φ,K,g,_,qxq,hs,hd⟩:=hI;obtain⟨e1,e2⟩:=hr.IV hall;rw [e1] at g;rw [e2] at qxq;exact hQ a w ⟨φ,K,g,qxq,hs,hd⟩
 intro fuel
 induction fuel with
 |zero=>intro listed a w hsz hcl hc hI;have hall:=C8 al.length (Nat.le_zero.1 hc);refine⟨?_,fin _ a w hall hI⟩;rw [List.eq_nil_iff_forall_not_mem];intro i hi;obtain⟨h1,h2,_⟩:=(mem_ready hsz).1 hi;have:=hall i (by omega);rw [h2] at this;cases this
 |succ fuel ih=>
  intro listed a w hsz hcl hc hI;refine⟨fun qzo=>fin _ a w ?_ hI,fun i hi=>?_⟩
  ·intro k
   induction k using Nat.strongRecOn with
   |_ k ihk=>
    intro hk;cases hl:listed.getD k false with
    |true=>rfl
    |false=>
     exfalso;have:k∈Region.ready .any ops listed:=(mem_ready hsz).2 ⟨by omega,hl,fun o e ho he hb=>by have hlt:=hr.cg k o e ho he hb;exact ihk e.on hlt (by omega)⟩
     rw [qzo] at this;cases this
  ·obtain⟨h1,h2,h3⟩:=(mem_ready hsz).1 hi;have ho:ops[i]?=some ops[i]:=Array.getElem?_eq_getElem h1;have qxc:∀k,(listed.setIfInBounds i true).getD k false=if k=i then true else listed.getD k false:=by
    intro k;simp only [Array.getD_eq_getD_getElem?,Array.getElem?_setIfInBounds];by_cases hk:k=i
    ·subst hk;rw [if_pos rfl,if_pos (by omega),if_pos rfl];rfl
    ·rw [if_neg (fun h=>hk h.symm),if_neg hk]
   have hj1:(listed.setIfInBounds i true).getD i false=true:=by rw [qxc,if_pos rfl]
   have hj2:∀k,k≠i->(listed.setIfInBounds i true).getD k false=listed.getD k false:=fun k hk=>by rw [qxc,if_neg hk]
   have hmono:∀k,Gw ops (fun k=>listed.getD k false) k->Gw ops (fun k=>(listed.setIfInBounds i true).getD k false) k:=by
    intro k hf o e ho he hb;have:=hf o e ho he hb;simp only at this ⊢;rw [qxc];split
    ·rfl
    ·exact this
   have hone:=hr.one (L:=fun k=>listed.getD k false) (L':=fun k=>(listed.setIfInBounds i true).getD k false) hcl (by omega) h2 h3 hj1 hj2 hI ho (wpAny P .any ops Q fuel (listed.setIfInBounds i true)) Q (fun a' w' hI'=>by
    refine ih _ a' w' (by simpa using hsz) (fun k hk=>?_) ?_ hI'
    ·rw [qxc] at hk;split at hk
     ·rename_i hki;subst hki;exact hmono _ h3
     ·exact hmono _ (hcl k hk)
    ·have:=Fq (L:=fun k=>listed.getD k false) (L':=fun k=>(listed.setIfInBounds i true).getD k false) h2 hj1 hj2 al.length;rw [if_pos (by omega)] at this;omega)
   unfold wpOp;rw [ho];simp only;split
   ·rename_i hw;rw [if_pos hw] at hone;exact .inl hone
   ·rename_i hw;rw [if_neg hw] at hone;exact hone
theorem sq {α ι:Type} (T:Nat->ι->Prop) (x0:ι->α) (y:Nat->ι->α) (L:Nat->Bool) (hL:∀k,L k=false):∀n,gM T x0 y L n=x0
 |0=>rfl
 |n+1=>by funext i;simp only [gM];rw [if_neg (by rw [hL n];simp),sq T x0 y L hL n]
theorem Kq {top:Nat} {cf:iy} (hcf:mz P cf) (hup:nw cf) (xh:P.follows .mixedOrders=true) {id:Nat} (hm:E0 P ops al ahead pairs=true) (hd:eZ cf nt al ahead pairs st=some st') (ht:st'.nx<=top)
  {φ:gW} {K:Nat->Prop} {w:World} {a:Act} (s:ck top φ K st.H.get st.nx w) (he:lO φ K w st.env a) (hs:a.tmps.size=nt) (hdf:a.defers=[]) {Q:Exit->Act->World->Prop} (hQ:∀a' w',Post top φ K st w nt st' a' w'->Q .normal a' w') :
  (Code.region id ops true).wp P Q a w:=by
 obtain⟨S,R,V,hr⟩:=LG hcf hup hm hd;refine wp_region_any xh ?_;have gd:=vr s;have hfalse:∀k,(Array.replicate ops.size false).getD k false=false:=by intro k;rw [Array.getD_eq_getD_getElem?,Array.getElem?_replicate];split<;>rfl
 have qjz:st.nx<=st'.nx:=by rw [←hr.last];exact hr.base _ (U3 _)
 have h0:hS st S R al.length (fun k=>(Array.replicate ops.size false).getD k false)=st.H.get:=sq _ _ _ _ hfalse _;have e0:eS st S al (fun k=>(Array.replicate ops.size false).getD k false)=fun t=>ev st.env (.t t):=sq _ _ _ _ hfalse _
 refine hr.any (φ0:=φ) (K0:=K) (w0:=w.drew) (fun a' w' hp=>hQ a' w' ?_) ops.size _ a w.drew (by simp) (fun i hi=>by rw [hfalse] at hi;cases hi) (by rw [hr.len];exact IE _ _) ?_
 ·obtain⟨φ',K',g,qxq,hs',hd'⟩:=hp;exact⟨φ',K',gd.trans (c7.back gd.j4 g),qxq,hs',hd'⟩
 ·refine⟨φ,K,?_,fun k hk _ idd hid=>?_,?_,hs,hdf⟩
  ·rw [h0];exact(c7.refl gd.j4).zero (U3 _) qjz
  ·rw [h0];have hge:=hr.Bg hk hid;obtain⟨_,_,_,e4⟩:=hr.DH k hk;have hlt:idd < top:=by have h1:=hid.2;rw [e4] at h1;have h2:=hr.mono al.length (k+1) hk (U3 _);rw [hr.last] at h2;omega
   refine⟨fun g=>s.new idd g hge hlt,?_⟩;cases hh:st.H.get idd with
   |none=>rfl
   |some ob=>exact absurd ⟨hge,hlt⟩ (s.low idd ob hh).1
  ·rw [e0];exact he.keep s gd
end
end Go.Ax
