/- Part 9 of the proof: V17. -/
import Derived.Test.YtamgnhdbeecapaaCy4
import Derived.Test.YtamgnhdbeecapaaCy5
import Derived.Test.YtamgnhdbeecapaaRows
import Derived.OpenShut
import Derived.Carry
set_option linter.unusedSimpArgs false
set_option linter.unusedVariables false
namespace Go.Ax.V
open Go.Proofs.Ytamgnhdbeecapaa
inductive G0 where
 |bool
 |int (k:IntKind)
 |str
 |sl (e:TypeId)
 |st (fs:List TypeId)
 |ar (n:Nat) (e:TypeId)
def mK (P:Program):List Field->Nat->Option Nat
 |[],o=>some o
 |f::fs,o=>if f.offset=o then mK P fs (o+P.cellsOf f.type) else none
def rowOf (P:Program) (t:TypeId):Option G0:=match P.underlying t with
 |some .bool=>some .bool
 |some (.int k)=>some (.int k)
 |some .string=>some .str
 |some (.slice e)=>if 0 < P.cellsOf e then some (.sl e) else none
 |some (.struct fs)=>if mK P fs.toList 0=some (P.cellsOf t) then some (.st (fs.toList.map (·.type))) else none
 |some (.array n e)=>if P.cellsOf t=n*P.cellsOf e then some (.ar n e) else none
 |_=>none
def jb:Option G0->Bool
 |some (.st _)=>true
 |some (.ar _ _)=>true
 |_=>false
def Dp (agg:Bool) (us:List TV):TV:=match agg,us with
 |true,us=>.a us
 |false,[x]=>x
 |false,_=>yD
def EA (f:TypeId->List TV->Prop):List TypeId->List TV->Prop
 |[],ts=>ts=[]
 |t::fs,ts=>∃u r,ts=u++r/\f t u/\EA f fs r
def ql (P:Program):Nat->TypeId->List TV->Prop
 |0,_,_=>False
 |n+1,t,ts=>match rowOf P t with
  |some .bool=>∃b,ts=[.b b]
  |some (.int k)=>∃m,ts=[.i k m]/\(Lit.int k m).wf=true
  |some .str=>∃s:ByteArray,ts=[.s s]/\s.size<=maxLen
  |some (.sl e)=>∃es:List TV,ts=[.l es]/\es.length<=maxLen/\∀(j:Nat) (x:TV),es[j]?=some x->∃us,x=Dp (jb (rowOf P e)) us/\ql P n e us
  |some (.st fs)=>EA (ql P n) fs ts
  |some (.ar k e)=>∃tss:List (List TV),tss.length=k/\ts=tss.flatten/\∀(j:Nat) (u:List TV),tss[j]?=some u->ql P n e u
  |none=>False
def uS (P:Program) (L:List TypeId) (t:TypeId):Bool:=match rowOf P t with
 |none=>false
 |some (.sl e)=>L.contains e
 |some (.st fs)=>fs.all L.contains
 |some (.ar _ e)=>L.contains e
 |_=>true
mutual
def TV.k5:TV->Nat
 |.l es=>dj es+1
 |.a cs=>dj cs+1
 |.s b=>b.size+1
 |.i _ _=>1
 |.b _=>1
 |.f _=>1
 |.np=>1
 |.tp _=>1
 |.nM _ _=>1
def dj:List TV->Nat
 |[]=>0
 |x::xs=>x.k5+dj xs
end
theorem l9 (xs ys:List TV):dj (xs++ys)=dj xs+dj ys:=by
 induction xs with
 |nil=>simp [dj]
 |cons x xs ih=>simp only [List.cons_append,dj,ih];omega
abbrev KW (W:World):Nat->Prop:=fun b=>b < W.heap.size
structure pZ (P:Program) (W:World) (bl n:Nat) (t:TypeId) (cs:List Value) (ts:List TV) (az:List AV):Prop where
 ty:ql P n t ts
 can:ep ts az
 len:az.length=cs.length
 cells:cs.length=P.cellsOf t\/jb (rowOf P t)=false
 flat:∀x∈az,AV.flat x=true
 rel:∀(j:Nat) (a:AV) (v:Value),az[j]?=some a->cs[j]?=some v->cZ (KW W) W a v
 k5:dj ts+(if jb (rowOf P t) then 1 else 0)<=bl
theorem Bf {a:AV} (h:a.flat=true):a.one=true:=by cases a<;>first|rfl|cases h
theorem vm {ts us:List TV} {az bs:List AV} (h:ep ts az) (h':ep us bs):ep (ts++us) (az++bs):=by
 induction ts generalizing az with
 |nil=>have:az=[]:=Lw.1 h.1.symm;subst this;exact h'
 |cons t ts ih=>
  match az,h with
  |[],h=>simp [ep] at h
  |a::az,h=>exact bM (h.2 0 t a rfl rfl) (ih ⟨by simpa using h.1,fun j u y hu hy=>h.2 (j+1) u y (by simpa using hu) (by simpa using hy)⟩)
theorem jL {t:TV} {a:AV} (h:Can t a):ep [t] [a]:=bM h gh
theorem Bu {w:World} {a:Addr} {m k:Nat} {v:Value} (h:w.cell? ((a.add m).add k)=some v):w.cell? ⟨a.block,a.off+(m+k),none⟩=some v:=by
 have hs:=World.cell?_spot h;obtain⟨b,o,s⟩:=a;by_cases hm:m=0
 ·subst hm;by_cases hk:k=0
  ·subst hk;simp [Addr.add] at hs h ⊢;subst hs;exact h
  ·simp [Addr.add,hk] at h ⊢;exact h
 ·by_cases hk:k=0
  ·subst hk;simp [Addr.add,hm] at h ⊢;exact h
  ·simp [Addr.add,hk,hm] at h ⊢;rw [Nat.add_assoc] at h;exact h
theorem wX {w:World} {a:Addr} {v:Value} (h:w.cell? ((a.add 0).add 0)=some v):a.spot=none:=by simp [Addr.add] at h;exact World.cell?_spot h
theorem CU {w:World} {b o:Nat} {v:Value} (h:w.cell? ⟨b,o,none⟩=some v):b < w.heap.size:=by
 unfold World.cell? at h;rcases Nat.lt_or_ge b w.heap.size with hb|hb
 ·exact hb
 ·rw [Array.getElem?_eq_none (by simpa using hb)] at h;cases h
section
variable {H:Type} {enc:TypeId×Value->H} {P:Program} {W:World} {L:List TypeId}
theorem zk {n:Nat} {t:TypeId} {ts:List TV} (h:ql P n t ts) (ha:jb (rowOf P t)=false):∃x,ts=[x]/\x.one=true:=by
 cases n with
 |zero=>cases h
 |succ n=>
  unfold ql at h;cases hr:rowOf P t with
  |none=>rw [hr] at h;cases h
  |some r=>
   rw [hr] at h ha;cases r with
   |bool=>obtain⟨b,rfl⟩:=h;exact⟨_,rfl,rfl⟩
   |int k=>obtain⟨b,rfl,_⟩:=h;exact⟨_,rfl,rfl⟩
   |str=>obtain⟨b,rfl,_⟩:=h;exact⟨_,rfl,rfl⟩
   |sl e=>obtain⟨b,rfl,_⟩:=h;exact⟨_,rfl,rfl⟩
   |st fs=>cases ha
   |ar k e=>cases ha
theorem yx {bl n:Nat} {t:TypeId} {cs:List Value} {ts:List TV} {az:List AV} (h:pZ P W bl n t cs ts az) :
  jS (Dp (jb (rowOf P t)) ts) az/\(Dp (jb (rowOf P t)) ts).k5<=bl:=by
 cases ha:jb (rowOf P t) with
 |true=>refine⟨.a _ _ h.can.1 h.can.2,?_⟩;have:=h.k5;rw [ha] at this;simpa [Dp,TV.k5] using this
 |false=>
  obtain⟨x,rfl,h1⟩:=zk h.ty ha;have hl:=h.can.1
  match az,hl,h with
  |[y],_,h=>refine⟨.one _ _ h1 (h.can.2 0 _ _ rfl rfl),?_⟩;have:=h.k5;rw [ha] at this;simpa [Dp,dj] using this
theorem oK {e:TypeId} {n:Nat} {a:Addr} (hz:0 < P.cellsOf e)
  (ih:∀(cs:List Value) (d:DataW H) (ps:List MemPlace),DataW.trod enc P W 0 (fun _=>true) true n e cs=some (d,ps)->∃ts az,pZ P W (Rows.uptoBulk d) n e cs ts az) :
  ∀(xs:List (DataW H×List MemPlace)) (o:Nat),(∀i,i < xs.length->(W.cells? 0 (a.add ((o+i)*P.cellsOf e)) (P.cellsOf e)).bind (DataW.trod enc P W 0 (fun _=>true) true n e)=xs[i]?)->
   ∃(es:List TV) (cells:List AV),es.length=xs.length/\cells.length=xs.length*P.cellsOf e/\(∀x∈cells,AV.flat x=true)/\
    (∀(j:Nat) (x:TV),es[j]?=some x->jS x ((cells.drop (j*P.cellsOf e)).take (P.cellsOf e))/\∃us,x=Dp (jb (rowOf P e)) us/\ql P n e us)/\
    (∀(j:Nat) (y:AV),cells[j]?=some y->∃v,W.cell? ⟨a.block,a.off+(o*P.cellsOf e+j),none⟩=some v/\cZ (KW W) W y v)/\
    dj es<=Rows.uptoBulkAll (xs.map (·.1))/\(o=0->xs≠[]->a.spot=none)
 |[],o,_=>⟨[],[],rfl,by simp,by simp,by simp,by simp,by simp [dj,Rows.uptoBulkAll],fun _ h=>absurd rfl h⟩
 |x::xs,o,h=>by
  have h0:=h 0 (by simp);simp only [Nat.add_zero,List.getElem?_cons_zero] at h0;obtain⟨cs,hc,ht⟩:=Option.bind_eq_some_iff.1 h0;obtain⟨_,hcl,hce⟩:=World.cells?_some hc;obtain⟨ts,az,ho⟩:=ih cs x.1 x.2 ht;obtain⟨es,cells,e1,e2,e3,e4,e5,e6,_⟩:=oK hz ih xs (o+1) (fun i hi=>by have:=h (i+1) (by simpa using hi);rw [List.getElem?_cons_succ] at this;rw [←this];congr 3;congr 1;omega)
  obtain⟨c1,c2⟩:=yx ho;have hal:az.length=P.cellsOf e:=by rw [ho.len,hcl]
  refine⟨Dp (jb (rowOf P e)) ts::es,az++cells,by simp [e1],by simp [hal,e2,Nat.add_mul];omega,?_,?_,?_,?_,?_⟩
  ·intro y hy;rcases Li.1 hy with hy|hy
   ·exact ho.flat y hy
   ·exact e3 y hy
  ·intro j y hy;cases j with
   |zero=>simp only [List.getElem?_cons_zero,Option.some.injEq] at hy;subst hy;refine⟨?_,ts,rfl,ho.ty⟩;simpa [←hal] using c1
   |succ j=>
    obtain⟨f1,f2⟩:=e4 j y (by simpa using hy);refine⟨?_,f2⟩;have:(j+1)*P.cellsOf e=az.length+j*P.cellsOf e:=by rw [hal,Nat.add_mul];omega
    rw [this,←List.drop_drop,List.drop_left];exact f1
  ·intro j y hy;by_cases hj:j < az.length
   ·rw [KZ hj] at hy;have hv:cs[j]?=some (cs[j]'(by rw [←ho.len];exact hj)):=KX _;refine⟨_,?_,ho.rel j y _ hy hv⟩;have:=hce j (by rw [hal] at hj;exact hj);rw [hv] at this;exact Bu this
   ·rw [K3 (by omega)] at hy;obtain⟨v,g1,g2⟩:=e5 _ _ hy;refine⟨v,?_,g2⟩;rw [←g1];congr 2;rw [Nat.add_mul,hal];omega
  ·simp only [dj,List.map_cons,Rows.uptoBulkAll];omega
  ·rintro rfl _;have:=hce 0 hz;obtain⟨v,hv⟩:∃v,cs[0]?=some v:=by rw [KX (by omega)];exact⟨_,rfl⟩
   rw [hv] at this;simp only [Nat.zero_mul] at this;exact wX this
theorem ny {n:Nat} {cs:List Value}
  (ih:∀(t:TypeId) (cs:List Value) (d:DataW H) (ps:List MemPlace),t∈L->DataW.trod enc P W 0 (fun _=>true) true n t cs=some (d,ps)->∃ts az,pZ P W (Rows.uptoBulk d) n t cs ts az) :
  ∀(fs:List Field) (xs:List (DataW H×List MemPlace)) (o:Nat),mK P fs o=some cs.length->(∀f∈fs,f.type∈L)->xs.length=fs.length->
   (∀(i:Nat) (f:Field),fs[i]?=some f->DataW.trod enc P W 0 (fun _=>true) true n f.type ((cs.drop f.offset).take (P.cellsOf f.type))=xs[i]?)->
   ∃ts az,EA (ql P n) (fs.map (·.type)) ts/\ep ts az/\az.length=(cs.drop o).length/\(∀x∈az,AV.flat x=true)/\
    (∀(j:Nat) (a:AV) (v:Value),az[j]?=some a->(cs.drop o)[j]?=some v->cZ (KW W) W a v)/\dj ts<=Rows.uptoBulkAll (xs.map (·.1))
 |[],xs,o,hok,_,hl,_=>by cases hok;exact⟨[],[],rfl,gh,by simp,by simp,by simp,by simp [dj]⟩
 |f::fs,xs,o,hok,hL,hl,h=>by
  unfold mK at hok;split at hok
  case isFalse=>cases hok
  case isTrue hf=>
  match xs,hl with
  |x::xs,hl=>
  have h0:=h 0 f rfl;simp only [List.getElem?_cons_zero] at h0;obtain⟨ts,az,ho⟩:=ih _ _ x.1 x.2 (hL f (by simp)) h0;obtain⟨ts',az',g1,g2,g3,g4,g5,g6⟩:=ny ih fs xs _ hok (fun f' hf'=>hL f' (by simp [hf'])) (by simpa using hl) (fun i f' hf'=>by have:=h (i+1) f' (by simpa using hf');simpa using this)
  have hmono:∀(fs:List Field) (o z:Nat),mK P fs o=some z->o<=z:=by
   intro fs
   induction fs with
   |nil=>intro o z hz;cases hz;exact LB _
   |cons f fs ihf=>
    intro o z hz;unfold mK at hz;split at hz
    ·have:=ihf _ _ hz;omega
    ·cases hz
  have hle:=hmono _ _ _ hok;have hal:az.length=P.cellsOf f.type:=by rw [ho.len,La,Lb,hf];omega
  refine⟨ts++ts',az++az',⟨ts,ts',rfl,ho.ty,g1⟩,vm ho.can g2,?_,?_,?_,?_⟩
  ·rw [K_,g3,hal,Lb,Lb];omega
  ·intro y hy;rcases Li.1 hy with hy|hy
   ·exact ho.flat y hy
   ·exact g4 y hy
  ·intro j a v ha hv;by_cases hj:j < az.length
   ·rw [KZ hj] at ha;refine ho.rel j a v ha ?_;rw [K6,if_pos (by omega),hf];exact hv
   ·rw [K3 (by omega)] at ha;refine g5 _ a v ha ?_;rw [K7] at hv ⊢;rw [←hv];congr 1;omega
  ·rw [l9];have:=ho.k5;simp only [List.map_cons,Rows.uptoBulkAll];omega
theorem nw {e:TypeId} {n:Nat} {cs:List Value}
  (ih:∀(cs:List Value) (d:DataW H) (ps:List MemPlace),DataW.trod enc P W 0 (fun _=>true) true n e cs=some (d,ps)->∃ts az,pZ P W (Rows.uptoBulk d) n e cs ts az) :
  ∀(xs:List (DataW H×List MemPlace)) (o:Nat),cs.length=(o+xs.length)*P.cellsOf e->
   (∀i,i < xs.length->DataW.trod enc P W 0 (fun _=>true) true n e ((cs.drop ((o+i)*P.cellsOf e)).take (P.cellsOf e))=xs[i]?)->
   ∃(tss:List (List TV)) (az:List AV),tss.length=xs.length/\(∀(j:Nat) (u:List TV),tss[j]?=some u->ql P n e u)/\ep tss.flatten az/\az.length=(cs.drop (o*P.cellsOf e)).length/\(∀x∈az,AV.flat x=true)/\
    (∀(j:Nat) (a:AV) (v:Value),az[j]?=some a->(cs.drop (o*P.cellsOf e))[j]?=some v->cZ (KW W) W a v)/\dj tss.flatten<=Rows.uptoBulkAll (xs.map (·.1))
 |[],o,hl,_=>⟨[],[],rfl,by simp,gh,by simp [hl],by simp,by simp,by simp [dj]⟩
 |x::xs,o,hl,h=>by
  have h0:=h 0 (by simp);simp only [Nat.add_zero,List.getElem?_cons_zero] at h0;obtain⟨ts,az,ho⟩:=ih _ x.1 x.2 h0;have hlen:(o+1)*P.cellsOf e<=cs.length:=by rw [hl];exact Nat.mul_le_mul_right _ (by simp)
  have hal:az.length=P.cellsOf e:=by rw [ho.len,La,Lb];rw [Nat.add_mul] at hlen;omega
  obtain⟨tss,az',g0,g1,g2,g3,g4,g5,g6⟩:=nw ih xs (o+1) (by rw [hl];congr 1;simp;omega) (fun i hi=>by have:=h (i+1) (by simpa using hi);rw [List.getElem?_cons_succ] at this;rw [←this];congr 4;omega)
  refine⟨ts::tss,az++az',by simp [g0],?_,?_,?_,?_,?_,?_⟩
  ·intro j u hu;cases j with
   |zero=>simp at hu;subst hu;exact ho.ty
   |succ j=>exact g1 j u (by simpa using hu)
  ·exact vm ho.can g2
  ·rw [K_,g3,hal,Lb,Lb];rw [Nat.add_mul] at hlen ⊢;omega
  ·intro y hy;rcases Li.1 hy with hy|hy
   ·exact ho.flat y hy
   ·exact g4 y hy
  ·intro j a v ha hv;by_cases hj:j < az.length
   ·rw [KZ hj] at ha;refine ho.rel j a v ha ?_;rw [K6,if_pos (by omega)];exact hv
   ·rw [K3 (by omega)] at ha;refine g5 _ a v ha ?_;rw [K7] at hv ⊢;rw [←hv];congr 1;rw [Nat.add_mul];omega
  ·rw [List.flatten_cons,l9];have:=ho.k5;simp only [List.map_cons,Rows.uptoBulkAll];omega
theorem qR (hL:∀t∈L,uS P L t=true):∀(n:Nat) (t:TypeId) (cs:List Value) (d:DataW H) (ps:List MemPlace),t∈L->DataW.trod enc P W 0 (fun _=>true) true n t cs=some (d,ps)->
  ∃ts az,pZ P W (Rows.uptoBulk d) n t cs ts az
 |0,t,cs,d,ps,_,h=>by simp [DataW.trod] at h
 |n+1,t,cs,d,ps,ht,h=>by
  have hg:=hL t ht;unfold uS at hg;cases hr:rowOf P t with
  |none=>rw [hr] at hg;cases hg
  |some r=>
   rw [hr] at hg;have hr0:=hr;unfold rowOf at hr;have ih:=qR hL n;split at hr
   case h_1 hu=>
    cases hr;obtain⟨b,rfl,e⟩:=DataW.trod_bool hu h;cases e;refine⟨[.b b],[.bool b],?_,jL (.b b),rfl,.inr (by rw [hr0];rfl),by simp [AV.flat],?_,by rw [hr0];simp [dj,TV.k5,Rows.uptoBulk,jb]⟩
    ·unfold ql;rw [hr0];exact⟨b,rfl⟩
    ·intro j a v ha hv;cases j with
     |zero=>simp at ha hv;subst ha;subst hv;exact .bool b
     |succ j=>simp at ha
   case h_2 k hu=>
    cases hr;obtain⟨m,rfl,e,hw⟩:=DataW.trod_int hu h;cases e;refine⟨[.i k m],[.int k m],?_,jL (.i k m),rfl,.inr (by rw [hr0];rfl),by simp [AV.flat],?_,by rw [hr0];simp [dj,TV.k5,Rows.uptoBulk,jb]⟩
    ·unfold ql;rw [hr0];exact⟨m,rfl,hw⟩
    ·intro j a v ha hv;cases j with
     |zero=>simp at ha hv;subst ha;subst hv;exact .int k m
     |succ j=>simp at ha
   case h_3 hu=>
    cases hr;obtain⟨s,rfl,e,hw⟩:=DataW.trod_string hu h;cases e;refine⟨[.s s],[.str s],?_,jL (.s s),rfl,.inr (by rw [hr0];rfl),by simp [AV.flat],?_,by rw [hr0];simp [dj,TV.k5,Rows.uptoBulk,jb]⟩
    ·unfold ql;rw [hr0];exact⟨s,rfl,hw⟩
    ·intro j a v ha hv;cases j with
     |zero=>simp at ha hv;subst ha;subst hv;exact .str s
     |succ j=>simp at ha
   case h_4 e hu=>
    split at hr
    case isFalse=>cases hr
    case isTrue hz=>
    cases hr;have he:e∈L:=by simpa using hg
    rcases DataW.trod_slice hu h with ⟨rfl,ex⟩|⟨a,len,cap,elems,rest,m,hm,rfl,ex,_,hlc,hcm,hel,hes,_,_⟩
    ·cases ex;refine⟨[.l []],[.ak],?_,jL .nil,rfl,.inr (by rw [hr0];rfl),by simp [AV.flat],?_,by rw [hr0];simp [dj,TV.k5,Rows.uptoBulk,jb]⟩
     ·unfold ql;rw [hr0];exact⟨[],rfl,by simp,by simp⟩
     ·intro j a v ha hv;cases j with
      |zero=>simp at ha hv;subst ha;subst hv;exact .ak
      |succ j=>simp at ha
    ·cases ex;obtain rfl:n=m:=by omega
     obtain⟨es,cells,e1,e2,e3,e4,e5,e6,e7⟩:=oK (a:=a) hz (fun cs d ps hh=>ih e cs d ps he hh) elems 0 (fun i hi=>by rw [Nat.zero_add];exact hes i (by omega));refine⟨[.l es],[.bO cells len none],?_,jL ?_,rfl,.inr (by rw [hr0];rfl),by simp [AV.flat],?_,?_⟩
     ·unfold ql;rw [hr0];refine⟨es,rfl,by omega,fun j x hx=>(e4 j x hx).2⟩
     ·exact .bO es cells len (P.cellsOf e) none (by omega) (by rw [e2,hel]) hz e3 (fun j x hx=>(e4 j x hx).1)
     ·intro j y v hy hv;cases j with
      |succ j=>simp at hy
      |zero=>
       simp at hy hv;subst hy;subst hv;refine .bO cells len none a cap (fun j=>(W.cell? ⟨a.block,a.off+j,none⟩).getD default) ?_ hlc (by simp) (fun j y hy=>Bf (e3 y (K8 hy))) ?_ ?_
       ·intro hne;have hx:elems≠[]:=by rintro rfl;apply hne;apply Lw.1;rw [e2];simp
        refine⟨e7 rfl hx,?_⟩;obtain⟨y,hy⟩:∃y,cells[0]?=some y:=by
         cases cells with
         |nil=>exact absurd rfl hne
         |cons y _=>exact⟨y,rfl⟩
        obtain⟨v,hv,_⟩:=e5 0 y hy;exact CU hv
       ·intro j hj;obtain⟨v,hv,_⟩:=e5 j _ (KX hj);simp only [Nat.zero_mul,Nat.zero_add] at hv;rw [hv];rfl
       ·intro j y hy;obtain⟨v,hv,qx8⟩:=e5 j y hy;simp only [Nat.zero_mul,Nat.zero_add] at hv;simp only [hv,Option.getD_some];exact qx8
     ·rw [hr0];simp only [dj,TV.k5,Rows.uptoBulk,jb];simp;omega
   case h_5 fs hu=>
    split at hr
    case isFalse=>cases hr
    case isTrue hz=>
    cases hr;obtain⟨xs,m,hm,ex,hcl,hxl,hxs⟩:=DataW.trod_struct hu h;cases ex;obtain rfl:n=m:=by omega
    have hall:∀f∈fs.toList,f.type∈L:=by intro f hf;have:=Ll.1 hg f.type (List.mem_map_of_mem hf);simpa using this
    obtain⟨ts,az,g1,g2,g3,g4,g5,g6⟩:=ny (L:=L) (cs:=cs) (fun t cs d ps hl hh=>ih t cs d ps hl hh) fs.toList xs 0 (by rw [hz,hcl]) hall (by simpa using hxl) (fun i f hf=>hxs i f (by simpa using hf));refine⟨ts,az,?_,g2,by simpa using g3,.inl hcl,g4,fun j a v ha hv=>g5 j a v ha (by simpa using hv),?_⟩
    ·unfold ql;rw [hr0];exact g1
    ·rw [hr0];simp only [Rows.uptoBulk,jb];simp;omega
   case h_6 k e hu=>
    split at hr
    case isFalse=>cases hr
    case isTrue hz=>
    cases hr;have he:e∈L:=by simpa using hg
    obtain⟨xs,m,hm,ex,hcl,hxl,hxs⟩:=DataW.trod_array hu h;cases ex;obtain rfl:n=m:=by omega
    obtain⟨tss,az,g0,g1,g2,g3,g4,g5,g6⟩:=nw (cs:=cs) (fun cs d ps hh=>ih e cs d ps he hh) xs 0 (by rw [hcl,hz,hxl];simp) (fun i hi=>by rw [Nat.zero_add];exact hxs i (by omega));refine⟨tss.flatten,az,?_,g2,by simpa using g3,.inl hcl,g4,fun j a v ha hv=>g5 j a v ha (by simpa using hv),?_⟩
    ·unfold ql;rw [hr0];exact⟨tss,by omega,rfl,g1⟩
    ·rw [hr0];simp only [Rows.uptoBulk,jb];simp;omega
   case h_7=>cases hr
end
end Go.Ax.V
namespace Go.Ax.V
theorem I2 {a b:Int} (h:a≠b):yT a b=false:=by rw [kZ];simpa using h
theorem I0 {a b:Int} (h:a=b):yT a b=true:=by rw [kZ];simpa using h
theorem F0 {a b:Int} (h1:-9223372036854775808<=a+b) (h2:a+b < 9223372036854775808):eN .add (.i .i64 a) (.i .i64 b)=some (.i .i64 (a+b)):=by show some (TV.i .i64 (cD .i64 (a+b)))=_;rw [sx h1 h2]
theorem Fp {k:IntKind} {a b:Int} (h0:b≠0):eN .rem (.i k a) (.i k b)=some (.i k (a.tmod b)):=by
 have e:zb k k=true:=by cases k<;>rfl
 show (match (bif zb k k then (bif yT b 0 then none else some (.int k (a.tmod b))) else none:Option AV) with|some r=>uX r|none=>none)=_;rw [e,I2 h0];rfl
theorem A7 {es:List TV} {j:Nat} {e:TV} (he:es[j]?=some e):o8 (.l es) (.i .i64 j)=some e:=by
 have hj:j < es.length:=by
  rcases Nat.lt_or_ge j es.length with h|h
  ·exact h
  ·rw [K5 h] at he;cases he
 have:y_ (.i .i64 (j:Int)) es.length=some j:=by show Cy (j:Int) es.length=some j;have hb:Nat.blt j es.length=true:=Nat.ble_eq_true_of_le hj;show (bif Nat.blt j es.length then some j else none)=some j;rw [hb];rfl
 show (match y_ (.i .i64 (j:Int)) es.length with|some k=>es[k]?|none=>none)=_;rw [this];exact he
end Go.Ax.V
namespace Go.Ax.V
open Go.Proofs.Ytamgnhdbeecapaa
theorem wF {W W':World} (h:RowKit.Grown W W') {p:MemPlace} (hp:p.block < W.heap.size):W.sameAt W' p:=by
 have h1:=h.1.2.2 p.block hp;cases p with
 |cell b o=>
  change b < W.heap.size at hp;change (match W.heap[b]?,W'.heap[b]? with
   |some (.cells c t fr),some (.cells c' t' fr')=>t'=t/\fr'=fr/\c'.size=c.size/\∀j:Nat,¬False->c'[j]?=c[j]?
   |some (.map es clock),some (.map es' clock')=>False\/(es'=es/\clock'=clock)
   |o,o'=>o'=o) at h1
  show W'.cell? ⟨b,o,none⟩=W.cell? ⟨b,o,none⟩;unfold World.cell?;simp only;split at h1
  ·rename_i e1 e2;rw [e1,e2];exact h1.2.2.2 o (fun h=>h)
  ·rename_i e1 e2;rw [e1,e2]
  ·rw [h1]
 |map b=>
  change b < W.heap.size at hp;change (match W.heap[b]?,W'.heap[b]? with
   |some (.cells c t fr),some (.cells c' t' fr')=>t'=t/\fr'=fr/\c'.size=c.size/\∀j:Nat,¬False->c'[j]?=c[j]?
   |some (.map es clock),some (.map es' clock')=>False\/(es'=es/\clock'=clock)
   |o,o'=>o'=o) at h1
  show W'.heap[b]?=W.heap[b]?;split at h1
  ·rename_i e1 e2;obtain⟨rfl,rfl,hs,hc⟩:=h1;rw [e1,e2];congr 2;exact Array.ext_getElem? (fun j=>hc j (fun h=>h))
  ·rename_i e1 e2;obtain⟨rfl,rfl⟩:=h1.elim (fun h=>h.elim) (fun h=>h);rw [e1,e2]
  ·exact h1
theorem carry {H:Type} {enc:TypeId×Value->H} {P:Program} {t:TypeId} (hl:laidOutB P=true) (hr:P.readableRec t=true) (hrow:t < P.types.size) {W W':World} {v:Value} {d:DataW H} {ps:List MemPlace} {sp:Nat->Bool}
  (h:DataW.Trod enc P W 0 (fun _=>true) true t v d ps) (hg:RowKit.Grown W W') (hlt:∀x∈ps,x.block < W.heap.size) (hs:∀p∈ps,sp p.block=true):DataW.Trod enc P W' 0 sp true t v d ps:=
 WideElems.Trod_stays hl hr hrow h (fun x hx=>wF hg (hlt x hx)) hs
section
variable {H:Type} {enc:TypeId×Value->H} {P:Program} {W:World} {L:List TypeId}
theorem yz (hL:∀t∈L,uS P L t=true) {t:TypeId} (ht:t∈L) (ha:jb (rowOf P t)=false) {v:Value} (hv:∀cs,v≠.agg cs) {d:DataW H} {ps:List MemPlace}
  (h:DataW.Trod enc P W 0 (fun _=>true) true t v d ps) :
  ∃n x a,ql P n t [x]/\Can x a/\aC qT (fun b=>b < W.heap.size) W a v/\x.k5<=Rows.uptoBulk d:=by
 obtain⟨n,hn⟩:=h;obtain⟨ts,az,ho⟩:=qR hL n t _ _ _ ht hn;have hc:v.cells.toList=[v]:=by cases v<;>first|rfl|exact absurd rfl (hv _)
 obtain⟨x,rfl,h1⟩:=zk ho.ty ha;have hl:=ho.can.1
 match az,hl,ho with
 |[a],_,ho=>refine⟨n,x,a,ho.ty,ho.can.2 0 _ _ rfl rfl,.pure (ho.rel 0 a v rfl (by rw [hc];rfl)),?_⟩;have hb:=ho.k5;rw [ha] at hb;simpa [dj] using hb
end
theorem BC {φ:er} {K:Nat->Prop} {w:World} {a b:AV} {U V:Value} (h:aC φ K w a U) (h':aC φ K w b V):qb φ K w [a,b] #[U,V]:=
 ⟨rfl,fun j x y hx hy=>by
  match j with
  |0=>simp at hx hy;subst hx;subst hy;exact h
  |1=>simp at hx hy;subst hx;subst hy;exact h'
  |j+2=>simp at hx⟩
end Go.Ax.V
