/- Part 9 of the proof: V17, Ft, Ct. -/
import Derived.Test.YtamgnhdbeecapaaCq4
import Derived.Test.YtamgnhdbeecapaaCq5
import Derived.Test.YtamgnhdbeecapaaRows
import Derived.OpenShut
import Derived.Carry
set_option linter.unusedSimpArgs false
set_option linter.unusedVariables false
namespace Go.Ax.V
open Go.Proofs.Ytamgnhdbeecapaa
inductive Lj where
 |bool
 |int (k:IntKind)
 |str
 |sl (e:TypeId)
 |st (fs:List TypeId)
 |ar (n:Nat) (e:TypeId)
def oD (P:Program):List Field->Nat->Option Nat
 |[],o=>some o
 |f::fs,o=>if f.offset=o then oD P fs (o+P.cellsOf f.type) else none
def rowOf (P:Program) (t:TypeId):Option Lj:=match P.underlying t with
 |some .bool=>some .bool
 |some (.int k)=>some (.int k)
 |some .string=>some .str
 |some (.slice e)=>if 0 < P.cellsOf e then some (.sl e) else none
 |some (.struct fs)=>if oD P fs.toList 0=some (P.cellsOf t) then some (.st (fs.toList.map (·.type))) else none
 |some (.array n e)=>if P.cellsOf t=n*P.cellsOf e then some (.ar n e) else none
 |_=>none
def jX:Option Lj->Bool
 |some (.st _)=>true
 |some (.ar _ _)=>true
 |_=>false
def FV (agg:Bool) (us:List TV):TV:=match agg,us with
 |true,us=>.a us
 |false,[x]=>x
 |false,_=>rS
def Io (f:TypeId->List TV->Prop):List TypeId->List TV->Prop
 |[],ts=>ts=[]
 |t::fs,ts=>∃u r,ts=u++r/\f t u/\Io f fs r
def qd (P:Program):Nat->TypeId->List TV->Prop
 |0,_,_=>False
 |n+1,t,ts=>match rowOf P t with
  |some .bool=>∃b,ts=[.b b]
  |some (.int k)=>∃m,ts=[.i k m]/\(Lit.int k m).wf=true
  |some .str=>∃s:ByteArray,ts=[.s s]/\s.size<=maxLen
  |some (.sl e)=>∃es:List TV,ts=[.l es]/\es.length<=maxLen/\∀(j:Nat) (x:TV),es[j]?=some x->∃us,x=FV (jX (rowOf P e)) us/\qd P n e us
  |some (.st fs)=>Io (qd P n) fs ts
  |some (.ar k e)=>∃tss:List (List TV),tss.length=k/\ts=tss.flatten/\∀(j:Nat) (u:List TV),tss[j]?=some u->qd P n e u
  |none=>False
def xN (P:Program) (L:List TypeId) (t:TypeId):Bool:=match rowOf P t with
 |none=>false
 |some (.sl e)=>L.contains e
 |some (.st fs)=>fs.all L.contains
 |some (.ar _ e)=>L.contains e
 |_=>true
mutual
def TV.mV:TV->Nat
 |.l es=>ef es+1
 |.a cs=>ef cs+1
 |.s b=>b.size+1
 |.i _ _=>1
 |.b _=>1
 |.f _=>1
 |.np=>1
 |.tp _=>1
 |.pZ _ _=>1
def ef:List TV->Nat
 |[]=>0
 |x::xs=>x.mV+ef xs
end
theorem n5 (xs ys:List TV):ef (xs++ys)=ef xs+ef ys:=by
 induction xs with
 |nil=>simp [ef]
 |cons x xs ih=>simp only [List.cons_append,ef,ih];omega
abbrev KW (W:World):Nat->Prop:=fun b=>b < W.heap.size
structure s9 (P:Program) (W:World) (bl n:Nat) (t:TypeId) (cs:List Value) (ts:List TV) (az:List AV):Prop where
 ty:qd P n t ts
 can:eT ts az
 len:az.length=cs.length
 cells:cs.length=P.cellsOf t\/jX (rowOf P t)=false
 flat:∀x∈az,AV.flat x=true
 rel:∀(j:Nat) (a:AV) (v:Value),az[j]?=some a->cs[j]?=some v->dL (KW W) W a v
 mV:ef ts+(if jX (rowOf P t) then 1 else 0)<=bl
theorem D3 {a:AV} (h:a.flat=true):a.one=true:=by cases a<;>first|rfl|cases h
theorem yg {ts us:List TV} {az bs:List AV} (h:eT ts az) (h':eT us bs):eT (ts++us) (az++bs):=by
 induction ts generalizing az with
 |nil=>have:az=[]:=Qt.1 h.1.symm;subst this;exact h'
 |cons t ts ih=>
  match az,h with
  |[],h=>simp [eT] at h
  |a::az,h=>exact br (h.2 0 t a rfl rfl) (ih ⟨by simpa using h.1,fun j u y hu hy=>h.2 (j+1) u y (by simpa using hu) (by simpa using hy)⟩)
theorem kZ {t:TV} {a:AV} (h:Can t a):eT [t] [a]:=br h eE
theorem En {w:World} {a:Addr} {m k:Nat} {v:Value} (h:w.cell? ((a.add m).add k)=some v):w.cell? ⟨a.block,a.off+(m+k),none⟩=some v:=by
 have hs:=World.cell?_spot h;obtain⟨b,o,s⟩:=a;by_cases hm:m=0
 ·subst hm;by_cases hk:k=0
  ·subst hk;simp [Addr.add] at hs h ⊢;subst hs;exact h
  ·simp [Addr.add,hk] at h ⊢;exact h
 ·by_cases hk:k=0
  ·subst hk;simp [Addr.add,hm] at h ⊢;exact h
  ·simp [Addr.add,hk,hm] at h ⊢;rw [Nat.add_assoc] at h;exact h
theorem zP {w:World} {a:Addr} {v:Value} (h:w.cell? ((a.add 0).add 0)=some v):a.spot=none:=by simp [Addr.add] at h;exact World.cell?_spot h
theorem F6 {w:World} {b o:Nat} {v:Value} (h:w.cell? ⟨b,o,none⟩=some v):b < w.heap.size:=by
 unfold World.cell? at h;rcases Nat.lt_or_ge b w.heap.size with hb|hb
 ·exact hb
 ·rw [Array.getElem?_eq_none (by simpa using hb)] at h;cases h
section
variable {H:Type} {enc:TypeId×Value->H} {P:Program} {W:World} {L:List TypeId}
theorem B6 {n:Nat} {t:TypeId} {ts:List TV} (h:qd P n t ts) (ha:jX (rowOf P t)=false):∃x,ts=[x]/\x.one=true:=by
 cases n with
 |zero=>cases h
 |succ n=>
  unfold qd at h;cases hr:rowOf P t with
  |none=>rw [hr] at h;cases h
  |some r=>
   rw [hr] at h ha;cases r with
   |bool=>obtain⟨b,rfl⟩:=h;exact⟨_,rfl,rfl⟩
   |int k=>obtain⟨b,rfl,_⟩:=h;exact⟨_,rfl,rfl⟩
   |str=>obtain⟨b,rfl,_⟩:=h;exact⟨_,rfl,rfl⟩
   |sl e=>obtain⟨b,rfl,_⟩:=h;exact⟨_,rfl,rfl⟩
   |st fs=>cases ha
   |ar k e=>cases ha
theorem Bl {bl n:Nat} {t:TypeId} {cs:List Value} {ts:List TV} {az:List AV} (h:s9 P W bl n t cs ts az) :
  ld (FV (jX (rowOf P t)) ts) az/\(FV (jX (rowOf P t)) ts).mV<=bl:=by
 cases ha:jX (rowOf P t) with
 |true=>refine⟨.a _ _ h.can.1 h.can.2,?_⟩;have:=h.mV;rw [ha] at this;simpa [FV,TV.mV] using this
 |false=>
  obtain⟨x,rfl,h1⟩:=B6 h.ty ha;have hl:=h.can.1
  match az,hl,h with
  |[y],_,h=>refine⟨.one _ _ h1 (h.can.2 0 _ _ rfl rfl),?_⟩;have:=h.mV;rw [ha] at this;simpa [FV,ef] using this
theorem rQ {e:TypeId} {n:Nat} {a:Addr} (hz:0 < P.cellsOf e)
  (ih:∀(cs:List Value) (d:DataW H) (ps:List MemPlace),DataW.trod enc P W 0 (fun _=>true) true n e cs=some (d,ps)->∃ts az,s9 P W (Rows.uptoBulk d) n e cs ts az) :
  ∀(xs:List (DataW H×List MemPlace)) (o:Nat),(∀i,i < xs.length->(W.cells? 0 (a.add ((o+i)*P.cellsOf e)) (P.cellsOf e)).bind (DataW.trod enc P W 0 (fun _=>true) true n e)=xs[i]?)->
   ∃(es:List TV) (cells:List AV),es.length=xs.length/\cells.length=xs.length*P.cellsOf e/\(∀x∈cells,AV.flat x=true)/\
    (∀(j:Nat) (x:TV),es[j]?=some x->ld x ((cells.drop (j*P.cellsOf e)).take (P.cellsOf e))/\∃us,x=FV (jX (rowOf P e)) us/\qd P n e us)/\
    (∀(j:Nat) (y:AV),cells[j]?=some y->∃v,W.cell? ⟨a.block,a.off+(o*P.cellsOf e+j),none⟩=some v/\dL (KW W) W y v)/\
    ef es<=Rows.uptoBulkAll (xs.map (·.1))/\(o=0->xs≠[]->a.spot=none)
 |[],o,_=>⟨[],[],rfl,by simp,by simp,by simp,by simp,by simp [ef,Rows.uptoBulkAll],fun _ h=>absurd rfl h⟩
 |x::xs,o,h=>by
  have h0:=h 0 (by simp);simp only [Nat.add_zero,List.getElem?_cons_zero] at h0;obtain⟨cs,hc,ht⟩:=Option.bind_eq_some_iff.1 h0;obtain⟨_,hcl,hce⟩:=World.cells?_some hc;obtain⟨ts,az,ho⟩:=ih cs x.1 x.2 ht;obtain⟨es,cells,e1,e2,e3,e4,e5,e6,_⟩:=rQ hz ih xs (o+1) (fun i hi=>by have:=h (i+1) (by simpa using hi);rw [List.getElem?_cons_succ] at this;rw [←this];congr 3;congr 1;omega)
  obtain⟨c1,c2⟩:=Bl ho;have hal:az.length=P.cellsOf e:=by rw [ho.len,hcl]
  refine⟨FV (jX (rowOf P e)) ts::es,az++cells,by simp [e1],by simp [hal,e2,Nat.add_mul];omega,?_,?_,?_,?_,?_⟩
  ·intro y hy;rcases Qg.1 hy with hy|hy
   ·exact ho.flat y hy
   ·exact e3 y hy
  ·intro j y hy;cases j with
   |zero=>simp only [List.getElem?_cons_zero,Option.some.injEq] at hy;subst hy;refine⟨?_,ts,rfl,ho.ty⟩;simpa [←hal] using c1
   |succ j=>
    obtain⟨f1,f2⟩:=e4 j y (by simpa using hy);refine⟨?_,f2⟩;have:(j+1)*P.cellsOf e=az.length+j*P.cellsOf e:=by rw [hal,Nat.add_mul];omega
    rw [this,←List.drop_drop,List.drop_left];exact f1
  ·intro j y hy;by_cases hj:j < az.length
   ·rw [PW hj] at hy;have hv:cs[j]?=some (cs[j]'(by rw [←ho.len];exact hj)):=PU _;refine⟨_,?_,ho.rel j y _ hy hv⟩;have:=hce j (by rw [hal] at hj;exact hj);rw [hv] at this;exact En this
   ·rw [PX (by omega)] at hy;obtain⟨v,g1,g2⟩:=e5 _ _ hy;refine⟨v,?_,g2⟩;rw [←g1];congr 2;rw [Nat.add_mul,hal];omega
  ·simp only [ef,List.map_cons,Rows.uptoBulkAll];omega
  ·rintro rfl _;have:=hce 0 hz;obtain⟨v,hv⟩:∃v,cs[0]?=some v:=by rw [PU (by omega)];exact⟨_,rfl⟩
   rw [hv] at this;simp only [Nat.zero_mul] at this;exact zP this
theorem pI {n:Nat} {cs:List Value}
  (ih:∀(t:TypeId) (cs:List Value) (d:DataW H) (ps:List MemPlace),t∈L->DataW.trod enc P W 0 (fun _=>true) true n t cs=some (d,ps)->∃ts az,s9 P W (Rows.uptoBulk d) n t cs ts az) :
  ∀(fs:List Field) (xs:List (DataW H×List MemPlace)) (o:Nat),oD P fs o=some cs.length->(∀f∈fs,f.type∈L)->xs.length=fs.length->
   (∀(i:Nat) (f:Field),fs[i]?=some f->DataW.trod enc P W 0 (fun _=>true) true n f.type ((cs.drop f.offset).take (P.cellsOf f.type))=xs[i]?)->
   ∃ts az,Io (qd P n) (fs.map (·.type)) ts/\eT ts az/\az.length=(cs.drop o).length/\(∀x∈az,AV.flat x=true)/\
    (∀(j:Nat) (a:AV) (v:Value),az[j]?=some a->(cs.drop o)[j]?=some v->dL (KW W) W a v)/\ef ts<=Rows.uptoBulkAll (xs.map (·.1))
 |[],xs,o,hok,_,hl,_=>by cases hok;exact⟨[],[],rfl,eE,by simp,by simp,by simp,by simp [ef]⟩
 |f::fs,xs,o,hok,hL,hl,h=>by
  unfold oD at hok;split at hok
  case isFalse=>cases hok
  case isTrue hf=>
  match xs,hl with
  |x::xs,hl=>
  have h0:=h 0 f rfl;simp only [List.getElem?_cons_zero] at h0;obtain⟨ts,az,ho⟩:=ih _ _ x.1 x.2 (hL f (by simp)) h0;obtain⟨ts',az',g1,g2,g3,g4,g5,g6⟩:=pI ih fs xs _ hok (fun f' hf'=>hL f' (by simp [hf'])) (by simpa using hl) (fun i f' hf'=>by have:=h (i+1) f' (by simpa using hf');simpa using this)
  have hmono:∀(fs:List Field) (o z:Nat),oD P fs o=some z->o<=z:=by
   intro fs
   induction fs with
   |nil=>intro o z hz;cases hz;exact Qy _
   |cons f fs ihf=>
    intro o z hz;unfold oD at hz;split at hz
    ·have:=ihf _ _ hz;omega
    ·cases hz
  have hle:=hmono _ _ _ hok;have hal:az.length=P.cellsOf f.type:=by rw [ho.len,P8,P9,hf];omega
  refine⟨ts++ts',az++az',⟨ts,ts',rfl,ho.ty,g1⟩,yg ho.can g2,?_,?_,?_,?_⟩
  ·rw [P7,g3,hal,P9,P9];omega
  ·intro y hy;rcases Qg.1 hy with hy|hy
   ·exact ho.flat y hy
   ·exact g4 y hy
  ·intro j a v ha hv;by_cases hj:j < az.length
   ·rw [PW hj] at ha;refine ho.rel j a v ha ?_;rw [P0,if_pos (by omega),hf];exact hv
   ·rw [PX (by omega)] at ha;refine g5 _ a v ha ?_;rw [P3] at hv ⊢;rw [←hv];congr 1;omega
  ·rw [n5];have:=ho.mV;simp only [List.map_cons,Rows.uptoBulkAll];omega
theorem pH {e:TypeId} {n:Nat} {cs:List Value}
  (ih:∀(cs:List Value) (d:DataW H) (ps:List MemPlace),DataW.trod enc P W 0 (fun _=>true) true n e cs=some (d,ps)->∃ts az,s9 P W (Rows.uptoBulk d) n e cs ts az) :
  ∀(xs:List (DataW H×List MemPlace)) (o:Nat),cs.length=(o+xs.length)*P.cellsOf e->
   (∀i,i < xs.length->DataW.trod enc P W 0 (fun _=>true) true n e ((cs.drop ((o+i)*P.cellsOf e)).take (P.cellsOf e))=xs[i]?)->
   ∃(tss:List (List TV)) (az:List AV),tss.length=xs.length/\(∀(j:Nat) (u:List TV),tss[j]?=some u->qd P n e u)/\eT tss.flatten az/\az.length=(cs.drop (o*P.cellsOf e)).length/\(∀x∈az,AV.flat x=true)/\
    (∀(j:Nat) (a:AV) (v:Value),az[j]?=some a->(cs.drop (o*P.cellsOf e))[j]?=some v->dL (KW W) W a v)/\ef tss.flatten<=Rows.uptoBulkAll (xs.map (·.1))
 |[],o,hl,_=>⟨[],[],rfl,by simp,eE,by simp [hl],by simp,by simp,by simp [ef]⟩
 |x::xs,o,hl,h=>by
  have h0:=h 0 (by simp);simp only [Nat.add_zero,List.getElem?_cons_zero] at h0;obtain⟨ts,az,ho⟩:=ih _ x.1 x.2 h0;have hlen:(o+1)*P.cellsOf e<=cs.length:=by rw [hl];exact Nat.mul_le_mul_right _ (by simp)
  have hal:az.length=P.cellsOf e:=by rw [ho.len,P8,P9];rw [Nat.add_mul] at hlen;omega
  obtain⟨tss,az',g0,g1,g2,g3,g4,g5,g6⟩:=pH ih xs (o+1) (by rw [hl];congr 1;simp;omega) (fun i hi=>by have:=h (i+1) (by simpa using hi);rw [List.getElem?_cons_succ] at this;rw [←this];congr 4;omega)
  refine⟨ts::tss,az++az',by simp [g0],?_,?_,?_,?_,?_,?_⟩
  ·intro j u hu;cases j with
   |zero=>simp at hu;subst hu;exact ho.ty
   |succ j=>exact g1 j u (by simpa using hu)
  ·exact yg ho.can g2
  ·rw [P7,g3,hal,P9,P9];rw [Nat.add_mul] at hlen ⊢;omega
  ·intro y hy;rcases Qg.1 hy with hy|hy
   ·exact ho.flat y hy
   ·exact g4 y hy
  ·intro j a v ha hv;by_cases hj:j < az.length
   ·rw [PW hj] at ha;refine ho.rel j a v ha ?_;rw [P0,if_pos (by omega)];exact hv
   ·rw [PX (by omega)] at ha;refine g5 _ a v ha ?_;rw [P3] at hv ⊢;rw [←hv];congr 1;rw [Nat.add_mul];omega
  ·rw [List.flatten_cons,n5];have:=ho.mV;simp only [List.map_cons,Rows.uptoBulkAll];omega
theorem tX (hL:∀t∈L,xN P L t=true):∀(n:Nat) (t:TypeId) (cs:List Value) (d:DataW H) (ps:List MemPlace),t∈L->DataW.trod enc P W 0 (fun _=>true) true n t cs=some (d,ps)->
  ∃ts az,s9 P W (Rows.uptoBulk d) n t cs ts az
 |0,t,cs,d,ps,_,h=>by simp [DataW.trod] at h
 |n+1,t,cs,d,ps,ht,h=>by
  have hg:=hL t ht;unfold xN at hg;cases hr:rowOf P t with
  |none=>rw [hr] at hg;cases hg
  |some r=>
   rw [hr] at hg;have hr0:=hr;unfold rowOf at hr;have ih:=tX hL n;split at hr
   case h_1 hu=>
    cases hr;obtain⟨b,rfl,e⟩:=DataW.trod_bool hu h;cases e;refine⟨[.b b],[.bool b],?_,kZ (.b b),rfl,.inr (by rw [hr0];rfl),by simp [AV.flat],?_,by rw [hr0];simp [ef,TV.mV,Rows.uptoBulk,jX]⟩
    ·unfold qd;rw [hr0];exact⟨b,rfl⟩
    ·intro j a v ha hv;cases j with
     |zero=>simp at ha hv;subst ha;subst hv;exact .bool b
     |succ j=>simp at ha
   case h_2 k hu=>
    cases hr;obtain⟨m,rfl,e,hw⟩:=DataW.trod_int hu h;cases e;refine⟨[.i k m],[.int k m],?_,kZ (.i k m),rfl,.inr (by rw [hr0];rfl),by simp [AV.flat],?_,by rw [hr0];simp [ef,TV.mV,Rows.uptoBulk,jX]⟩
    ·unfold qd;rw [hr0];exact⟨m,rfl,hw⟩
    ·intro j a v ha hv;cases j with
     |zero=>simp at ha hv;subst ha;subst hv;exact .int k m
     |succ j=>simp at ha
   case h_3 hu=>
    cases hr;obtain⟨s,rfl,e,hw⟩:=DataW.trod_string hu h;cases e;refine⟨[.s s],[.str s],?_,kZ (.s s),rfl,.inr (by rw [hr0];rfl),by simp [AV.flat],?_,by rw [hr0];simp [ef,TV.mV,Rows.uptoBulk,jX]⟩
    ·unfold qd;rw [hr0];exact⟨s,rfl,hw⟩
    ·intro j a v ha hv;cases j with
     |zero=>simp at ha hv;subst ha;subst hv;exact .str s
     |succ j=>simp at ha
   case h_4 e hu=>
    split at hr
    case isFalse=>cases hr
    case isTrue hz=>
    cases hr;have he:e∈L:=by simpa using hg
    rcases DataW.trod_slice hu h with ⟨rfl,ex⟩|⟨a,len,cap,elems,rest,m,hm,rfl,ex,_,hlc,hcm,hel,hes,_,_⟩
    ·cases ex;refine⟨[.l []],[.ak],?_,kZ .nil,rfl,.inr (by rw [hr0];rfl),by simp [AV.flat],?_,by rw [hr0];simp [ef,TV.mV,Rows.uptoBulk,jX]⟩
     ·unfold qd;rw [hr0];exact⟨[],rfl,by simp,by simp⟩
     ·intro j a v ha hv;cases j with
      |zero=>simp at ha hv;subst ha;subst hv;exact .ak
      |succ j=>simp at ha
    ·cases ex;obtain rfl:n=m:=by omega
     obtain⟨es,cells,e1,e2,e3,e4,e5,e6,e7⟩:=rQ (a:=a) hz (fun cs d ps hh=>ih e cs d ps he hh) elems 0 (fun i hi=>by rw [Nat.zero_add];exact hes i (by omega));refine⟨[.l es],[.b6 cells len none],?_,kZ ?_,rfl,.inr (by rw [hr0];rfl),by simp [AV.flat],?_,?_⟩
     ·unfold qd;rw [hr0];refine⟨es,rfl,by omega,fun j x hx=>(e4 j x hx).2⟩
     ·exact .b6 es cells len (P.cellsOf e) none (by omega) (by rw [e2,hel]) hz e3 (fun j x hx=>(e4 j x hx).1)
     ·intro j y v hy hv;cases j with
      |succ j=>simp at hy
      |zero=>
       simp at hy hv;subst hy;subst hv;refine .b6 cells len none a cap (fun j=>(W.cell? ⟨a.block,a.off+j,none⟩).getD default) ?_ hlc (by simp) (fun j y hy=>D3 (e3 y (P4 hy))) ?_ ?_
       ·intro hne;have hx:elems≠[]:=by rintro rfl;apply hne;apply Qt.1;rw [e2];simp
        refine⟨e7 rfl hx,?_⟩;obtain⟨y,hy⟩:∃y,cells[0]?=some y:=by
         cases cells with
         |nil=>exact absurd rfl hne
         |cons y _=>exact⟨y,rfl⟩
        obtain⟨v,hv,_⟩:=e5 0 y hy;exact F6 hv
       ·intro j hj;obtain⟨v,hv,_⟩:=e5 j _ (PU hj);simp only [Nat.zero_mul,Nat.zero_add] at hv;rw [hv];rfl
       ·intro j y hy;obtain⟨v,hv,qzq⟩:=e5 j y hy;simp only [Nat.zero_mul,Nat.zero_add] at hv;simp only [hv,Option.getD_some];exact qzq
     ·rw [hr0];simp only [ef,TV.mV,Rows.uptoBulk,jX];simp;omega
   case h_5 fs hu=>
    split at hr
    case isFalse=>cases hr
    case isTrue hz=>
    cases hr;obtain⟨xs,m,hm,ex,hcl,hxl,hxs⟩:=DataW.trod_struct hu h;cases ex;obtain rfl:n=m:=by omega
    have hall:∀f∈fs.toList,f.type∈L:=by intro f hf;have:=Qj.1 hg f.type (List.mem_map_of_mem hf);simpa using this
    obtain⟨ts,az,g1,g2,g3,g4,g5,g6⟩:=pI (L:=L) (cs:=cs) (fun t cs d ps hl hh=>ih t cs d ps hl hh) fs.toList xs 0 (by rw [hz,hcl]) hall (by simpa using hxl) (fun i f hf=>hxs i f (by simpa using hf));refine⟨ts,az,?_,g2,by simpa using g3,.inl hcl,g4,fun j a v ha hv=>g5 j a v ha (by simpa using hv),?_⟩
    ·unfold qd;rw [hr0];exact g1
    ·rw [hr0];simp only [Rows.uptoBulk,jX];simp;omega
   case h_6 k e hu=>
    split at hr
    case isFalse=>cases hr
    case isTrue hz=>
    cases hr;have he:e∈L:=by simpa using hg
    obtain⟨xs,m,hm,ex,hcl,hxl,hxs⟩:=DataW.trod_array hu h;cases ex;obtain rfl:n=m:=by omega
    obtain⟨tss,az,g0,g1,g2,g3,g4,g5,g6⟩:=pH (cs:=cs) (fun cs d ps hh=>ih e cs d ps he hh) xs 0 (by rw [hcl,hz,hxl];simp) (fun i hi=>by rw [Nat.zero_add];exact hxs i (by omega));refine⟨tss.flatten,az,?_,g2,by simpa using g3,.inl hcl,g4,fun j a v ha hv=>g5 j a v ha (by simpa using hv),?_⟩
    ·unfold qd;rw [hr0];exact⟨tss,by omega,rfl,g1⟩
    ·rw [hr0];simp only [Rows.uptoBulk,jX];simp;omega
   case h_7=>cases hr
end
end Go.Ax.V
namespace Go.Ax.V
theorem DM {a b:Int} (h:¬a < b):od a b=false:=by rw [iZ];simpa using h
theorem JQ {a b:Int} (h:a < b):od a b=true:=by rw [iZ];simpa using h
theorem J9 {a b:Int} (h:a=b):AR a b=true:=by rw [mS];simpa using h
theorem EI {a b:Int} (h1:-9223372036854775808<=a+b) (h2:a+b < 9223372036854775808):bF .add (.i .i64 a) (.i .i64 b)=some (.i .i64 (a+b)):=by show some (TV.i .i64 (cG .i64 (a+b)))=_;rw [m4 h1 h2]
theorem Cd {a b:Int} (h1:-9223372036854775808<=a - b) (h2:a - b < 9223372036854775808):bF .sub (.i .i64 a) (.i .i64 b)=some (.i .i64 (a - b)):=by show some (TV.i .i64 (cG .i64 (a - b)))=_;rw [m4 h1 h2]
theorem jm {es:List TV} {j:Nat} {e:TV} (he:es[j]?=some e):fo (.l es) (.i .i64 j)=some e:=by
 have hj:j < es.length:=by
  rcases Nat.lt_or_ge j es.length with h|h
  ·exact h
  ·rw [PZ h] at he;cases he
 have:vw (.i .i64 (j:Int)) es.length=some j:=by show DO (j:Int) es.length=some j;have hb:Nat.blt j es.length=true:=Nat.ble_eq_true_of_le hj;show (bif Nat.blt j es.length then some j else none)=some j;rw [hb];rfl
 show (match vw (.i .i64 (j:Int)) es.length with|some k=>es[k]?|none=>none)=_;rw [this];exact he
theorem Ba {α:Type} {l:List α} {i:Nat} {x:α} (h:l[i]?=some x):l.take i++[x]=l.take (i+1):=by rw [List.take_add_one,h];rfl
end Go.Ax.V
namespace Go.Ax.V
open Go.Proofs.Ytamgnhdbeecapaa
theorem zn {W W':World} (h:RowKit.Grown W W') {p:MemPlace} (hp:p.block < W.heap.size):W.sameAt W' p:=by
 have h1:=h.1.2.2 p.block hp;cases p with
 |cell b o=>
  change b < W.heap.size at hp;change (match W.heap[b]?,W'.heap[b]? with
   |some (.cells c t fr),some (.cells c' t' fr')=>t'=t/\fr'=fr/\c'.size=c.size/\∀j:Nat,¬False->c'[j]?=c[j]?
   |some (.map es clock),some (.map es' clock')=>False\/(es'=es/\clock'=clock)
   |o,o'=>o'=o) at h1
  show W'.cell? ⟨b,o,none⟩=W.cell? ⟨b,o,none⟩;unfold World.cell?;simp only;split at h1
  ·rename_i e1 e2;rw [e1,e2];exact h1.2.2.2 o (fun h=>h)
  ·rename_i e1 e2;rw [e1,e2]
  ·rw [h1]
 |map b=>
  change b < W.heap.size at hp;change (match W.heap[b]?,W'.heap[b]? with
   |some (.cells c t fr),some (.cells c' t' fr')=>t'=t/\fr'=fr/\c'.size=c.size/\∀j:Nat,¬False->c'[j]?=c[j]?
   |some (.map es clock),some (.map es' clock')=>False\/(es'=es/\clock'=clock)
   |o,o'=>o'=o) at h1
  show W'.heap[b]?=W.heap[b]?;split at h1
  ·rename_i e1 e2;obtain⟨rfl,rfl,hs,hc⟩:=h1;rw [e1,e2];congr 2;exact Array.ext_getElem? (fun j=>hc j (fun h=>h))
  ·rename_i e1 e2;obtain⟨rfl,rfl⟩:=h1.elim (fun h=>h.elim) (fun h=>h);rw [e1,e2]
  ·exact h1
theorem carry {H:Type} {enc:TypeId×Value->H} {P:Program} {t:TypeId} (hl:laidOutB P=true) (hr:P.readableRec t=true) (hrow:t < P.types.size) {W W':World} {v:Value} {d:DataW H} {ps:List MemPlace} {sp:Nat->Bool}
  (h:DataW.Trod enc P W 0 (fun _=>true) true t v d ps) (hg:RowKit.Grown W W') (hlt:∀x∈ps,x.block < W.heap.size) (hs:∀p∈ps,sp p.block=true):DataW.Trod enc P W' 0 sp true t v d ps:=
 WideElems.Trod_stays hl hr hrow h (fun x hx=>zn hg (hlt x hx)) hs
section
variable {H:Type} {enc:TypeId×Value->H} {P:Program} {W:World} {L:List TypeId}
theorem tY (hL:∀t∈L,xN P L t=true) {t:TypeId} (ht:t∈L) (ha:jX (rowOf P t)=false) {v:Value} (hv:∀cs,v≠.agg cs) {d:DataW H} {ps:List MemPlace}
  (h:DataW.Trod enc P W 0 (fun _=>true) true t v d ps) :
  ∃n x a,qd P n t [x]/\Can x a/\aG t_ (fun b=>b < W.heap.size) W a v/\x.mV<=Rows.uptoBulk d:=by
 obtain⟨n,hn⟩:=h;obtain⟨ts,az,ho⟩:=tX hL n t _ _ _ ht hn;have hc:v.cells.toList=[v]:=by cases v<;>first|rfl|exact absurd rfl (hv _)
 obtain⟨x,rfl,h1⟩:=B6 ho.ty ha;have hl:=ho.can.1
 match az,hl,ho with
 |[a],_,ho=>refine⟨n,x,a,ho.ty,ho.can.2 0 _ _ rfl rfl,.pure (ho.rel 0 a v rfl (by rw [hc];rfl)),?_⟩;have hb:=ho.mV;rw [ha] at hb;simpa [ef] using hb
end
theorem zW {φ:fm} {K:Nat->Prop} {w:World} {a b c:AV} {U V X:Value} (h:aG φ K w a U) (h':aG φ K w b V) (h2:aG φ K w c X):td φ K w [a,b,c] #[U,V,X]:=
 ⟨rfl,fun j x y hx hy=>by
  match j with
  |0=>simp at hx hy;subst hx;subst hy;exact h
  |1=>simp at hx hy;subst hx;subst hy;exact h'
  |2=>simp at hx hy;subst hx;subst hy;exact h2
  |j+3=>simp at hx⟩
end Go.Ax.V
set_option maxRecDepth 100000
namespace Go.Ax.Ft
open Go Go.Ax Go.Ax.V
inductive Ex where
 |mk (k n v:Int) (kids:List Ex)
structure Co where
 op:Int
 l:Ex
 r:Ex
structure Ch where
 kind:Int
 size:Int
 src:Int
 dst:Int
 tags:Int
 rule:List (List Int)
structure Ed where
 src:Int
 dst:Int
 kind:Int
 var:Int
 chan:Int
 tag:Int
 e:Ex
 c:Co
structure Gr where
 nodes:Int
 Ef:List Ed
 heads:List Int
def y8:Ex:=.mk 0 0 0 []
def DA:Co:=⟨0,y8,y8⟩
def Gr.FW (g:Gr) (e:Ed):Gr:={g with Ef:=g.Ef++[e]}
def Gr.node (g:Gr):Gr:={g with nodes:=g.nodes+1}
abbrev ii (n:Int):TV:=.i .i64 n
mutual
def Ni:Ex->TV
 |.mk k n v ks=>.a [ii k,ii n,ii v,.l (Ea ks)]
def Ea:List Ex->List TV
 |[]=>[]
 |e::r=>Ni e::Ea r
end
def cE:Ex->List TV
 |.mk k n v ks=>[ii k,ii n,ii v,.l (Ea ks)]
def cC (c:Co):List TV:=ii c.op::(cE c.l++cE c.r)
def BE (l:List Int):TV:=.l (l.map ii)
def uM (c:Ch):TV:=.a [ii c.kind,ii c.size,ii c.src,ii c.dst,ii c.tags,.l (c.rule.map BE)]
def Ka (e:Ed):TV:=.a ([ii e.src,ii e.dst,ii e.kind,ii e.var,ii e.chan,ii e.tag]++cE e.e++cC e.c)
def xZ (g:Gr):TV:=.a [ii g.nodes,.l (g.Ef.map Ka),.l (g.heads.map ii)]
theorem A9 {prog:Map aq} {f:Nat} {ts:List TV} {c:TV} (h:VS prog f ts (fun r=>r=c)):VS prog f ts (fun r'=>r'=c/\qR true c):=h.mono fun r hr=>⟨hr,trivial⟩
theorem l_ (t:Bool):yu .not (.b t)=some (.b (!t)):=by cases t<;>rfl
theorem JM (a b:Int):bF .neq (.i .i64 a) (.i .i64 b)=some (.b (!AR a b)):=rfl
theorem Ao (a b:Int):od a b=decide (a < b):=iZ a b
theorem D_ (a b:Int):AR a b=decide (a=b):=mS a b
theorem Dz (a b:Int):(!decide (a < b))=decide (b<=a):=by
 by_cases h:a < b
 ·have:¬b<=a:=by omega
  simp [h,this]
 ·have:b<=a:=by omega
  simp [h,this]
theorem Hg {t c:Bool}:c_ (.b t) (bif t then .b c else rS) (.b false)=some (.b (t&&c)):=by cases t<;>rfl
theorem Hf {t c:Bool}:c_ (.b t) (.b true) (bif t then rS else .b c)=some (.b (t||c)):=by cases t<;>rfl
theorem MT {t:Bool} {k:TV->Prop} (hk:k (.b true)):∃w,c_ (.b t) (.b true) (bif t then rS else .b true)=some w/\k w:=by
 cases t with
 |true=>exact⟨_,rfl,hk⟩
 |false=>exact⟨_,rfl,hk⟩
theorem Cc {a b:Int} (h1:-9223372036854775808<=a - b:=by omega) (h2:a - b < 9223372036854775808:=by omega):bF .sub (.i .i64 a) (.i .i64 b)=some (.i .i64 (a - b)):=Cd h1 h2
theorem EH {a b:Int} (h1:-9223372036854775808<=a+b:=by omega) (h2:a+b < 9223372036854775808:=by omega):bF .add (.i .i64 a) (.i .i64 b)=some (.i .i64 (a+b)):=EI h1 h2
theorem MU {t:Bool}:c_ (.b t) (bif t then .b false else rS) (.b false)=some (.b false):=by cases t<;>rfl
theorem MS {t:Bool}:c_ (.b t) (.b true) (bif t then rS else .b true)=some (.b true):=by cases t<;>rfl
theorem PL {t:Bool} {P:TV->Prop} {v:TV} (hp:t=true->P v:=by intro h;first|(rewrite [h];(try dsimp only [cond_true,cond_false])<;>first|exact Cc|exact EH|rfl|exact l_ _|exact Hg|exact Hf|exact⟨rfl,rfl⟩)|rfl|exact⟨rfl,rfl⟩|exact A9 (by assumption)|(rw [h];exact A9 (by assumption))):gV (.b t) true P (bif t then v else rS):=by
 cases t with
 |true=>exact hp rfl
 |false=>rfl
theorem PJ {t:Bool} {P:TV->Prop} {v:TV} (hp:t=false->P v:=by intro h;first|(rewrite [h];(try dsimp only [cond_true,cond_false])<;>first|exact Cc|exact EH|rfl|exact l_ _|exact Hg|exact Hf|exact⟨rfl,rfl⟩)|rfl|exact⟨rfl,rfl⟩|exact A9 (by assumption)|(rw [h];exact A9 (by assumption))):gV (.b t) false P (bif t then rS else v):=by
 cases t with
 |false=>exact hp rfl
 |true=>rfl
theorem GV {p q:Prop} (hq:q) (hp:p:=by exact rfl):p/\q:=⟨hp,hq⟩
theorem GU {α:Type} {P K:α->Prop} {v:α} (hk:K v) (hp:P v:=by first|exact Cc|exact EH|exact rfl|exact l_ _|exact⟨rfl,rfl⟩|exact MU|exact MS|exact Hg|exact Hf|exact PL|exact PJ):∃v,P v/\K v:=⟨v,hp,hk⟩
theorem vu {i n:Nat} (h:od (i:Int) (n:Int)=true):i < n:=by rw [iZ] at h;simpa using h
theorem vF {i n:Nat} (hi:i<=n) (h:od (i:Int) (n:Int)=false):i=n:=by
 rw [iZ] at h;have:¬(i:Int) < n:=by simpa using h
 omega
theorem vn {i n:Nat} (hi:i < n) (hn:n<=4611686018427387904):bF .add (ii i) (ii 1)=some (ii ((i+1:Nat):Int)):=by have:=EI (a:=(i:Int)) (b:=1) (by omega) (by omega);rw [this];rfl
theorem m8 {α:Type} {l:List α} {f:α->Bool} {i:Nat} {x:α} (hx:l[i]?=some x) (h:(l.take i).all f=true) (hf:f x=true):(l.take (i+1)).all f=true:=by rw [←Ba hx];simp [h,hf]
theorem ql {α:Type} {l:List α} {f:α->Bool} {i:Nat} {x:α} (hx:l[i]?=some x) (hf:f x=false):l.all f=false:=by rw [List.all_eq_false];exact⟨x,P4 hx,by simp [hf]⟩
def mT (AX:List Ch) (gs:List Gr) (vars:List Int):TV:=.a [.l (AX.map uM),.l (gs.map xZ),.l (vars.map ii)]
end Go.Ax.Ft
namespace Go.Ax.Ft
open Go Go.Ax Go.Ax.V
structure Cf where
 pos:List Int
 vars:List (List Int)
 iT:List (List (Int×Int))
 states:List Int
def BF (m:Int×Int):TV:=.a [ii m.1,ii m.2]
def zG (q:List (Int×Int)):TV:=.l (q.map BF)
def sJ (c:Cf):TV:=.a [.l (c.pos.map ii),.l (c.vars.map BE),.l (c.iT.map zG),.l (c.states.map ii)]
def wi (n size:Int):Bool:=decide (0<=n)&&decide (n < size)
def fE (n:Int):Bool:=decide (-2147483648<=n)&&decide (n<=2147483647)
def xw (c:Ch) (m:Int×Int):Bool:=wi m.1 c.tags&&fE m.2
def iU (c:Ch) (q:List (Int×Int)):Bool:=q.all (xw c)&&decide ((q.length:Int)<=c.size)
def iO (AX graphs:Nat) (c:Cf):Bool:=decide ((c.pos.length:Int)=graphs)&&decide ((c.vars.length:Int)=graphs)&&decide ((c.iT.length:Int)=AX)&&decide ((c.states.length:Int)=AX)
def Nd:Gr:=⟨0,[],[]⟩
def Lw:Ch:=⟨0,0,0,0,0,[]⟩
def rE (gs:List Gr) (vs:List Int) (c:Cf) (i:Nat):Bool:=wi (c.pos.getD i 0) (gs.getD i Nd).nodes&&decide (((c.vars.getD i []).length:Int)=vs.getD i 0)&&(c.vars.getD i []).all fE
def sV (cs:List Ch) (c:Cf) (i:Nat):Bool:=iU (cs.getD i Lw) (c.iT.getD i [])&&wi (c.states.getD i 0) (max ((cs.getD i Lw).rule.length:Int) 1)
def kI (cs:List Ch) (gs:List Gr) (vs:List Int) (c:Cf):Bool:=iO cs.length gs.length c&&(List.range gs.length).all (rE gs vs c)&&(List.range cs.length).all (sV cs c)
theorem get_map {α:Type} {f:α->TV} {l:List α} (d:α) {i:Nat} (h:i < l.length):(l.map f)[i]?=some (f (l.getD i d)):=by rw [PY,PU h,List.getD_eq_getElem?_getD,PU h];rfl
theorem tS {n i:Nat} (h:i < n):(List.range n)[i]?=some i:=by rw [List.getElem?_range h]
theorem ry {n:Nat}:(List.range n).take n=List.range n:=Qu (by simp)
structure GS (c:Cf):Prop where
 pos:c.pos.length<=4194304
 vars:c.vars.length<=4194304
 var:∀l∈c.vars,l.length<=4194304
 iT:c.iT.length<=4194304
 queue:∀l∈c.iT,l.length<=4194304
 states:c.states.length<=4194304
theorem xR {α:Type} {l:List α} {d:α} {i:Nat} (h:i < l.length):l.getD i d∈l:=by rw [List.getD_eq_getElem?_getD,PU h];exact P5 h
end Go.Ax.Ft
