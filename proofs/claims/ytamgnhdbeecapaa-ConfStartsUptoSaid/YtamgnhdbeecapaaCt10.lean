/- Part 10 of the proof: V17, Ft, Ct, Fq, Fw, Fo, Fe, Fs. -/
import Derived.Test.YtamgnhdbeecapaaCt5
import Derived.Test.YtamgnhdbeecapaaCt7
import Derived.Test.YtamgnhdbeecapaaRows
import Derived.OpenShut
import Derived.Carry
set_option linter.unusedSimpArgs false
set_option linter.unusedVariables false
namespace Go.Ax.V
open Go.Proofs.Ytamgnhdbeecapaa
inductive Row1 where
 |bool
 |int (k:IntKind)
 |str
 |sl (e:TypeId)
 |st (fs:List TypeId)
 |ar (n:Nat) (e:TypeId)
def DP (P:Program):List Field->Nat->Option Nat
 |[],o=>some o
 |f::fs,o=>if f.offset=o then DP P fs (o+P.cellsOf f.type) else none
def rowOf (P:Program) (t:TypeId):Option Row1:=match P.underlying t with
 |some .bool=>some .bool
 |some (.int k)=>some (.int k)
 |some .string=>some .str
 |some (.slice e)=>if 0 < P.cellsOf e then some (.sl e) else none
 |some (.struct fs)=>if DP P fs.toList 0=some (P.cellsOf t) then some (.st (fs.toList.map (·.type))) else none
 |some (.array n e)=>if P.cellsOf t=n*P.cellsOf e then some (.ar n e) else none
 |_=>none
def Ap:Option Row1->Bool
 |some (.st _)=>true
 |some (.ar _ _)=>true
 |_=>false
def VB (agg:Bool) (us:List TV):TV:=match agg,us with
 |true,us=>.a us
 |false,[x]=>x
 |false,_=>qi
def WG (f:TypeId->List TV->Prop):List TypeId->List TV->Prop
 |[],ts=>ts=[]
 |t::fs,ts=>∃u r,ts=u++r/\f t u/\WG f fs r
def we (P:Program):Nat->TypeId->List TV->Prop
 |0,_,_=>False
 |n+1,t,ts=>match rowOf P t with
  |some .bool=>∃b,ts=[.b b]
  |some (.int k)=>∃m,ts=[.i k m]/\(Lit.int k m).wf=true
  |some .str=>∃s:ByteArray,ts=[.s s]/\s.size<=maxLen
  |some (.sl e)=>∃es:List TV,ts=[.l es]/\es.length<=maxLen/\∀(j:Nat) (x:TV),es[j]?=some x->∃us,x=VB (Ap (rowOf P e)) us/\we P n e us
  |some (.st fs)=>WG (we P n) fs ts
  |some (.ar k e)=>∃tss:List (List TV),tss.length=k/\ts=tss.flatten/\∀(j:Nat) (u:List TV),tss[j]?=some u->we P n e u
  |none=>False
def KA (P:Program) (L:List TypeId) (t:TypeId):Bool:=match rowOf P t with
 |none=>false
 |some (.sl e)=>L.contains e
 |some (.st fs)=>fs.all L.contains
 |some (.ar _ e)=>L.contains e
 |_=>true
mutual
def TV.q9:TV->Nat
 |.l es=>fj es+1
 |.a cs=>fj cs+1
 |.s b=>b.size+1
 |.i _ _=>1
 |.b _=>1
 |.f _=>1
 |.np=>1
 |.tp _=>1
 |.B7 _ _=>1
def fj:List TV->Nat
 |[]=>0
 |x::xs=>x.q9+fj xs
end
theorem gM (xs ys:List TV):fj (xs++ys)=fj xs+fj ys:=by
 induction xs with
 |nil=>simp [fj]
 |cons x xs ih=>simp only [List.cons_append,fj,ih];omega
abbrev KW (W:World):Nat->Prop:=fun b=>b < W.heap.size
structure GF (P:Program) (W:World) (bl n:Nat) (t:TypeId) (cs:List Value) (ts:List TV) (az:List AV):Prop where
 ty:we P n t ts
 can:oY ts az
 len:az.length=cs.length
 cells:cs.length=P.cellsOf t\/Ap (rowOf P t)=false
 flat:∀x∈az,AV.flat x=true
 rel:∀(j:Nat) (a:AV) (v:Value),az[j]?=some a->cs[j]?=some v->lU (KW W) W a v
 q9:fj ts+(if Ap (rowOf P t) then 1 else 0)<=bl
theorem KG {a:AV} (h:a.flat=true):a.one=true:=by cases a<;>first|rfl|cases h
theorem Lb {ts us:List TV} {az bs:List AV} (h:oY ts az) (h':oY us bs):oY (ts++us) (az++bs):=by
 induction ts generalizing az with
 |nil=>have:az=[]:=qqM.1 h.1.symm;subst this;exact h'
 |cons t ts ih=>
  match az,h with
  |[],h=>simp [oY] at h
  |a::az,h=>exact Eb (h.2 0 t a rfl rfl) (ih ⟨by simpa using h.1,fun j u y hu hy=>h.2 (j+1) u y (by simpa using hu) (by simpa using hy)⟩)
theorem Bg {t:TV} {a:AV} (h:Can t a):oY [t] [a]:=Eb h Dq
theorem RM {w:World} {a:Addr} {m k:Nat} {v:Value} (h:w.cell? ((a.add m).add k)=some v):w.cell? ⟨a.block,a.off+(m+k),none⟩=some v:=by
 have hs:=World.cell?_spot h;obtain⟨b,o,s⟩:=a;by_cases hm:m=0
 ·subst hm;by_cases hk:k=0
  ·subst hk;simp [Addr.add] at hs h ⊢;subst hs;exact h
  ·simp [Addr.add,hk] at h ⊢;exact h
 ·by_cases hk:k=0
  ·subst hk;simp [Addr.add,hm] at h ⊢;exact h
  ·simp [Addr.add,hk,hm] at h ⊢;rw [Nat.add_assoc] at h;exact h
theorem MN {w:World} {a:Addr} {v:Value} (h:w.cell? ((a.add 0).add 0)=some v):a.spot=none:=by simp [Addr.add] at h;exact World.cell?_spot h
theorem Tz {w:World} {b o:Nat} {v:Value} (h:w.cell? ⟨b,o,none⟩=some v):b < w.heap.size:=by
 unfold World.cell? at h;rcases Nat.lt_or_ge b w.heap.size with hb|hb
 ·exact hb
 ·rw [Array.getElem?_eq_none (by simpa using hb)] at h;cases h
section
variable {H:Type} {enc:TypeId×Value->H} {P:Program} {W:World} {L:List TypeId}
theorem Un {n:Nat} {t:TypeId} {ts:List TV} (h:we P n t ts) (ha:Ap (rowOf P t)=false):∃x,ts=[x]/\x.one=true:=by
 cases n with
 |zero=>cases h
 |succ n=>
  unfold we at h;cases hr:rowOf P t with
  |none=>rw [hr] at h;cases h
  |some r=>
   rw [hr] at h ha;cases r with
   |bool=>obtain⟨b,rfl⟩:=h;exact⟨_,rfl,rfl⟩
   |int k=>obtain⟨b,rfl,_⟩:=h;exact⟨_,rfl,rfl⟩
   |str=>obtain⟨b,rfl,_⟩:=h;exact⟨_,rfl,rfl⟩
   |sl e=>obtain⟨b,rfl,_⟩:=h;exact⟨_,rfl,rfl⟩
   |st fs=>cases ha
   |ar k e=>cases ha
theorem Ov {bl n:Nat} {t:TypeId} {cs:List Value} {ts:List TV} {az:List AV} (h:GF P W bl n t cs ts az) :
  B1 (VB (Ap (rowOf P t)) ts) az/\(VB (Ap (rowOf P t)) ts).q9<=bl:=by
 cases ha:Ap (rowOf P t) with
 |true=>refine⟨.a _ _ h.can.1 h.can.2,?_⟩;have:=h.q9;rw [ha] at this;simpa [VB,TV.q9] using this
 |false=>
  obtain⟨x,rfl,h1⟩:=Un h.ty ha;have hl:=h.can.1
  match az,hl,h with
  |[y],_,h=>refine⟨.one _ _ h1 (h.can.2 0 _ _ rfl rfl),?_⟩;have:=h.q9;rw [ha] at this;simpa [VB,fj] using this
theorem FR {e:TypeId} {n:Nat} {a:Addr} (hz:0 < P.cellsOf e)
  (ih:∀(cs:List Value) (d:DataW H) (ps:List MemPlace),DataW.trod enc P W 0 (fun _=>true) true n e cs=some (d,ps)->∃ts az,GF P W (Rows.uptoBulk d) n e cs ts az) :
  ∀(xs:List (DataW H×List MemPlace)) (o:Nat),(∀i,i < xs.length->(W.cells? 0 (a.add ((o+i)*P.cellsOf e)) (P.cellsOf e)).bind (DataW.trod enc P W 0 (fun _=>true) true n e)=xs[i]?)->
   ∃(es:List TV) (cells:List AV),es.length=xs.length/\cells.length=xs.length*P.cellsOf e/\(∀x∈cells,AV.flat x=true)/\
    (∀(j:Nat) (x:TV),es[j]?=some x->B1 x ((cells.drop (j*P.cellsOf e)).take (P.cellsOf e))/\∃us,x=VB (Ap (rowOf P e)) us/\we P n e us)/\
    (∀(j:Nat) (y:AV),cells[j]?=some y->∃v,W.cell? ⟨a.block,a.off+(o*P.cellsOf e+j),none⟩=some v/\lU (KW W) W y v)/\
    fj es<=Rows.uptoBulkAll (xs.map (·.1))/\(o=0->xs≠[]->a.spot=none)
 |[],o,_=>⟨[],[],rfl,by simp,by simp,by simp,by simp,by simp [fj,Rows.uptoBulkAll],fun _ h=>absurd rfl h⟩
 |x::xs,o,h=>by
  have h0:=h 0 (by simp);simp only [Nat.add_zero,List.getElem?_cons_zero] at h0;obtain⟨cs,hc,ht⟩:=Option.bind_eq_some_iff.1 h0;obtain⟨_,hcl,hce⟩:=World.cells?_some hc;obtain⟨ts,az,ho⟩:=ih cs x.1 x.2 ht;obtain⟨es,cells,e1,e2,e3,e4,e5,e6,_⟩:=FR hz ih xs (o+1) (fun i hi=>by have:=h (i+1) (by simpa using hi);rw [List.getElem?_cons_succ] at this;rw [←this];congr 3;congr 1;omega)
  obtain⟨c1,c2⟩:=Ov ho;have hal:az.length=P.cellsOf e:=by rw [ho.len,hcl]
  refine⟨VB (Ap (rowOf P e)) ts::es,az++cells,by simp [e1],by simp [hal,e2,Nat.add_mul];omega,?_,?_,?_,?_,?_⟩
  ·intro y hy;rcases qqx.1 hy with hy|hy
   ·exact ho.flat y hy
   ·exact e3 y hy
  ·intro j y hy;cases j with
   |zero=>simp only [List.getElem?_cons_zero,Option.some.injEq] at hy;subst hy;refine⟨?_,ts,rfl,ho.ty⟩;simpa [←hal] using c1
   |succ j=>
    obtain⟨f1,f2⟩:=e4 j y (by simpa using hy);refine⟨?_,f2⟩;have:(j+1)*P.cellsOf e=az.length+j*P.cellsOf e:=by rw [hal,Nat.add_mul];omega
    rw [this,←List.drop_drop,List.drop_left];exact f1
  ·intro j y hy;by_cases hj:j < az.length
   ·rw [qqc hj] at hy;have hv:cs[j]?=some (cs[j]'(by rw [←ho.len];exact hj)):=qqa _;refine⟨_,?_,ho.rel j y _ hy hv⟩;have:=hce j (by rw [hal] at hj;exact hj);rw [hv] at this;exact RM this
   ·rw [qqd (by omega)] at hy;obtain⟨v,g1,g2⟩:=e5 _ _ hy;refine⟨v,?_,g2⟩;rw [←g1];congr 2;rw [Nat.add_mul,hal];omega
  ·simp only [fj,List.map_cons,Rows.uptoBulkAll];omega
  ·rintro rfl _;have:=hce 0 hz;obtain⟨v,hv⟩:∃v,cs[0]?=some v:=by rw [qqa (by omega)];exact⟨_,rfl⟩
   rw [hv] at this;simp only [Nat.zero_mul] at this;exact MN this
theorem Et {n:Nat} {cs:List Value}
  (ih:∀(t:TypeId) (cs:List Value) (d:DataW H) (ps:List MemPlace),t∈L->DataW.trod enc P W 0 (fun _=>true) true n t cs=some (d,ps)->∃ts az,GF P W (Rows.uptoBulk d) n t cs ts az) :
  ∀(fs:List Field) (xs:List (DataW H×List MemPlace)) (o:Nat),DP P fs o=some cs.length->(∀f∈fs,f.type∈L)->xs.length=fs.length->
   (∀(i:Nat) (f:Field),fs[i]?=some f->DataW.trod enc P W 0 (fun _=>true) true n f.type ((cs.drop f.offset).take (P.cellsOf f.type))=xs[i]?)->
   ∃ts az,WG (we P n) (fs.map (·.type)) ts/\oY ts az/\az.length=(cs.drop o).length/\(∀x∈az,AV.flat x=true)/\
    (∀(j:Nat) (a:AV) (v:Value),az[j]?=some a->(cs.drop o)[j]?=some v->lU (KW W) W a v)/\fj ts<=Rows.uptoBulkAll (xs.map (·.1))
 |[],xs,o,hok,_,hl,_=>by cases hok;exact⟨[],[],rfl,Dq,by simp,by simp,by simp,by simp [fj]⟩
 |f::fs,xs,o,hok,hL,hl,h=>by
  unfold DP at hok;split at hok
  case isFalse=>cases hok
  case isTrue hf=>
  match xs,hl with
  |x::xs,hl=>
  have h0:=h 0 f rfl;simp only [List.getElem?_cons_zero] at h0;obtain⟨ts,az,ho⟩:=ih _ _ x.1 x.2 (hL f (by simp)) h0;obtain⟨ts',az',g1,g2,g3,g4,g5,g6⟩:=Et ih fs xs _ hok (fun f' hf'=>hL f' (by simp [hf'])) (by simpa using hl) (fun i f' hf'=>by have:=h (i+1) f' (by simpa using hf');simpa using this)
  have hmono:∀(fs:List Field) (o z:Nat),DP P fs o=some z->o<=z:=by
   intro fs
   induction fs with
   |nil=>intro o z hz;cases hz;exact qqT _
   |cons f fs ihf=>
    intro o z hz;unfold DP at hz;split at hz
    ·have:=ihf _ _ hz;omega
    ·cases hz
  have hle:=hmono _ _ _ hok;have hal:az.length=P.cellsOf f.type:=by rw [ho.len,qqn,qqo,hf];omega
  refine⟨ts++ts',az++az',⟨ts,ts',rfl,ho.ty,g1⟩,Lb ho.can g2,?_,?_,?_,?_⟩
  ·rw [qqm,g3,hal,qqo,qqo];omega
  ·intro y hy;rcases qqx.1 hy with hy|hy
   ·exact ho.flat y hy
   ·exact g4 y hy
  ·intro j a v ha hv;by_cases hj:j < az.length
   ·rw [qqc hj] at ha;refine ho.rel j a v ha ?_;rw [qqg,if_pos (by omega),hf];exact hv
   ·rw [qqd (by omega)] at ha;refine g5 _ a v ha ?_;rw [qqh] at hv ⊢;rw [←hv];congr 1;omega
  ·rw [gM];have:=ho.q9;simp only [List.map_cons,Rows.uptoBulkAll];omega
theorem Es {e:TypeId} {n:Nat} {cs:List Value}
  (ih:∀(cs:List Value) (d:DataW H) (ps:List MemPlace),DataW.trod enc P W 0 (fun _=>true) true n e cs=some (d,ps)->∃ts az,GF P W (Rows.uptoBulk d) n e cs ts az) :
  ∀(xs:List (DataW H×List MemPlace)) (o:Nat),cs.length=(o+xs.length)*P.cellsOf e->
   (∀i,i < xs.length->DataW.trod enc P W 0 (fun _=>true) true n e ((cs.drop ((o+i)*P.cellsOf e)).take (P.cellsOf e))=xs[i]?)->
   ∃(tss:List (List TV)) (az:List AV),tss.length=xs.length/\(∀(j:Nat) (u:List TV),tss[j]?=some u->we P n e u)/\oY tss.flatten az/\az.length=(cs.drop (o*P.cellsOf e)).length/\(∀x∈az,AV.flat x=true)/\
    (∀(j:Nat) (a:AV) (v:Value),az[j]?=some a->(cs.drop (o*P.cellsOf e))[j]?=some v->lU (KW W) W a v)/\fj tss.flatten<=Rows.uptoBulkAll (xs.map (·.1))
 |[],o,hl,_=>⟨[],[],rfl,by simp,Dq,by simp [hl],by simp,by simp,by simp [fj]⟩
 |x::xs,o,hl,h=>by
  have h0:=h 0 (by simp);simp only [Nat.add_zero,List.getElem?_cons_zero] at h0;obtain⟨ts,az,ho⟩:=ih _ x.1 x.2 h0;have hlen:(o+1)*P.cellsOf e<=cs.length:=by rw [hl];exact Nat.mul_le_mul_right _ (by simp)
  have hal:az.length=P.cellsOf e:=by rw [ho.len,qqn,qqo];rw [Nat.add_mul] at hlen;omega
  obtain⟨tss,az',g0,g1,g2,g3,g4,g5,g6⟩:=Es ih xs (o+1) (by rw [hl];congr 1;simp;omega) (fun i hi=>by have:=h (i+1) (by simpa using hi);rw [List.getElem?_cons_succ] at this;rw [←this];congr 4;omega)
  refine⟨ts::tss,az++az',by simp [g0],?_,?_,?_,?_,?_,?_⟩
  ·intro j u hu;cases j with
   |zero=>simp at hu;subst hu;exact ho.ty
   |succ j=>exact g1 j u (by simpa using hu)
  ·exact Lb ho.can g2
  ·rw [qqm,g3,hal,qqo,qqo];rw [Nat.add_mul] at hlen ⊢;omega
  ·intro y hy;rcases qqx.1 hy with hy|hy
   ·exact ho.flat y hy
   ·exact g4 y hy
  ·intro j a v ha hv;by_cases hj:j < az.length
   ·rw [qqc hj] at ha;refine ho.rel j a v ha ?_;rw [qqg,if_pos (by omega)];exact hv
   ·rw [qqd (by omega)] at ha;refine g5 _ a v ha ?_;rw [qqh] at hv ⊢;rw [←hv];congr 1;rw [Nat.add_mul];omega
  ·rw [List.flatten_cons,gM];have:=ho.q9;simp only [List.map_cons,Rows.uptoBulkAll];omega
theorem Hv (hL:∀t∈L,KA P L t=true):∀(n:Nat) (t:TypeId) (cs:List Value) (d:DataW H) (ps:List MemPlace),t∈L->DataW.trod enc P W 0 (fun _=>true) true n t cs=some (d,ps)->
  ∃ts az,GF P W (Rows.uptoBulk d) n t cs ts az
 |0,t,cs,d,ps,_,h=>by simp [DataW.trod] at h
 |n+1,t,cs,d,ps,ht,h=>by
  have hg:=hL t ht;unfold KA at hg;cases hr:rowOf P t with
  |none=>rw [hr] at hg;cases hg
  |some r=>
   rw [hr] at hg;have hr0:=hr;unfold rowOf at hr;have ih:=Hv hL n;split at hr
   case h_1 hu=>
    cases hr;obtain⟨b,rfl,e⟩:=DataW.trod_bool hu h;cases e;refine⟨[.b b],[.bool b],?_,Bg (.b b),rfl,.inr (by rw [hr0];rfl),by simp [AV.flat],?_,by rw [hr0];simp [fj,TV.q9,Rows.uptoBulk,Ap]⟩
    ·unfold we;rw [hr0];exact⟨b,rfl⟩
    ·intro j a v ha hv;cases j with
     |zero=>simp at ha hv;subst ha;subst hv;exact .bool b
     |succ j=>simp at ha
   case h_2 k hu=>
    cases hr;obtain⟨m,rfl,e,hw⟩:=DataW.trod_int hu h;cases e;refine⟨[.i k m],[.int k m],?_,Bg (.i k m),rfl,.inr (by rw [hr0];rfl),by simp [AV.flat],?_,by rw [hr0];simp [fj,TV.q9,Rows.uptoBulk,Ap]⟩
    ·unfold we;rw [hr0];exact⟨m,rfl,hw⟩
    ·intro j a v ha hv;cases j with
     |zero=>simp at ha hv;subst ha;subst hv;exact .int k m
     |succ j=>simp at ha
   case h_3 hu=>
    cases hr;obtain⟨s,rfl,e,hw⟩:=DataW.trod_string hu h;cases e;refine⟨[.s s],[.str s],?_,Bg (.s s),rfl,.inr (by rw [hr0];rfl),by simp [AV.flat],?_,by rw [hr0];simp [fj,TV.q9,Rows.uptoBulk,Ap]⟩
    ·unfold we;rw [hr0];exact⟨s,rfl,hw⟩
    ·intro j a v ha hv;cases j with
     |zero=>simp at ha hv;subst ha;subst hv;exact .str s
     |succ j=>simp at ha
   case h_4 e hu=>
    split at hr
    case isFalse=>cases hr
    case isTrue hz=>
    cases hr;have he:e∈L:=by simpa using hg
    rcases DataW.trod_slice hu h with ⟨rfl,ex⟩|⟨a,len,cap,elems,rest,m,hm,rfl,ex,_,hlc,hcm,hel,hes,_,_⟩
    ·cases ex;refine⟨[.l []],[.av],?_,Bg .nil,rfl,.inr (by rw [hr0];rfl),by simp [AV.flat],?_,by rw [hr0];simp [fj,TV.q9,Rows.uptoBulk,Ap]⟩
     ·unfold we;rw [hr0];exact⟨[],rfl,by simp,by simp⟩
     ·intro j a v ha hv;cases j with
      |zero=>simp at ha hv;subst ha;subst hv;exact .av
      |succ j=>simp at ha
    ·cases ex;obtain rfl:n=m:=by omega
     obtain⟨es,cells,e1,e2,e3,e4,e5,e6,e7⟩:=FR (a:=a) hz (fun cs d ps hh=>ih e cs d ps he hh) elems 0 (fun i hi=>by rw [Nat.zero_add];exact hes i (by omega));refine⟨[.l es],[.ju cells len none],?_,Bg ?_,rfl,.inr (by rw [hr0];rfl),by simp [AV.flat],?_,?_⟩
     ·unfold we;rw [hr0];refine⟨es,rfl,by omega,fun j x hx=>(e4 j x hx).2⟩
     ·exact .ju es cells len (P.cellsOf e) none (by omega) (by rw [e2,hel]) hz e3 (fun j x hx=>(e4 j x hx).1)
     ·intro j y v hy hv;cases j with
      |succ j=>simp at hy
      |zero=>
       simp at hy hv;subst hy;subst hv;refine .ju cells len none a cap (fun j=>(W.cell? ⟨a.block,a.off+j,none⟩).getD default) ?_ hlc (by simp) (fun j y hy=>KG (e3 y (qqi hy))) ?_ ?_
       ·intro hne;have hx:elems≠[]:=by rintro rfl;apply hne;apply qqM.1;rw [e2];simp
        refine⟨e7 rfl hx,?_⟩;obtain⟨y,hy⟩:∃y,cells[0]?=some y:=by
         cases cells with
         |nil=>exact absurd rfl hne
         |cons y _=>exact⟨y,rfl⟩
        obtain⟨v,hv,_⟩:=e5 0 y hy;exact Tz hv
       ·intro j hj;obtain⟨v,hv,_⟩:=e5 j _ (qqa hj);simp only [Nat.zero_mul,Nat.zero_add] at hv;rw [hv];rfl
       ·intro j y hy;obtain⟨v,hv,qjO⟩:=e5 j y hy;simp only [Nat.zero_mul,Nat.zero_add] at hv;simp only [hv,Option.getD_some];exact qjO
     ·rw [hr0];simp only [fj,TV.q9,Rows.uptoBulk,Ap];simp;omega
   case h_5 fs hu=>
    split at hr
    case isFalse=>cases hr
    case isTrue hz=>
    cases hr;obtain⟨xs,m,hm,ex,hcl,hxl,hxs⟩:=DataW.trod_struct hu h;cases ex;obtain rfl:n=m:=by omega
    have hall:∀f∈fs.toList,f.type∈L:=by intro f hf;have:=qqA.1 hg f.type (List.mem_map_of_mem hf);simpa using this
    obtain⟨ts,az,g1,g2,g3,g4,g5,g6⟩:=Et (L:=L) (cs:=cs) (fun t cs d ps hl hh=>ih t cs d ps hl hh) fs.toList xs 0 (by rw [hz,hcl]) hall (by simpa using hxl) (fun i f hf=>hxs i f (by simpa using hf));refine⟨ts,az,?_,g2,by simpa using g3,.inl hcl,g4,fun j a v ha hv=>g5 j a v ha (by simpa using hv),?_⟩
    ·unfold we;rw [hr0];exact g1
    ·rw [hr0];simp only [Rows.uptoBulk,Ap];simp;omega
   case h_6 k e hu=>
    split at hr
    case isFalse=>cases hr
    case isTrue hz=>
    cases hr;have he:e∈L:=by simpa using hg
    obtain⟨xs,m,hm,ex,hcl,hxl,hxs⟩:=DataW.trod_array hu h;cases ex;obtain rfl:n=m:=by omega
    obtain⟨tss,az,g0,g1,g2,g3,g4,g5,g6⟩:=Es (cs:=cs) (fun cs d ps hh=>ih e cs d ps he hh) xs 0 (by rw [hcl,hz,hxl];simp) (fun i hi=>by rw [Nat.zero_add];exact hxs i (by omega));refine⟨tss.flatten,az,?_,g2,by simpa using g3,.inl hcl,g4,fun j a v ha hv=>g5 j a v ha (by simpa using hv),?_⟩
    ·unfold we;rw [hr0];exact⟨tss,by omega,rfl,g1⟩
    ·rw [hr0];simp only [Rows.uptoBulk,Ap];simp;omega
   case h_7=>cases hr
end
end Go.Ax.V
namespace Go.Ax.V
theorem gB {t:Bool} {P:TV->Prop} {k:TV->Prop} (v:TV) (hp:t=true->P v) (hk:k (bif t then v else qi)):∃w,gV (.b t) true P w/\k w:=by
 cases t with
 |true=>exact bg rfl (hp rfl) hk
 |false=>exact cr rfl hk
theorem gO {t:Bool} {P:TV->Prop} {k:TV->Prop} (v:TV) (hp:t=false->P v) (hk:k (bif t then qi else v)):∃w,gV (.b t) false P w/\k w:=by
 cases t with
 |false=>exact bg rfl (hp rfl) hk
 |true=>exact cr rfl hk
theorem E9 {t c:Bool} {k:TV->Prop} (hk:k (.b (t&&c))):∃w,ij (.b t) (bif t then .b c else qi) (.b false)=some w/\k w:=by
 cases t with
 |true=>exact⟨_,rfl,hk⟩
 |false=>exact⟨_,rfl,hk⟩
theorem IG {t c:Bool} {k:TV->Prop} (hk:k (.b (t||c))):∃w,ij (.b t) (.b true) (bif t then qi else .b c)=some w/\k w:=by
 cases t with
 |true=>exact⟨_,rfl,hk⟩
 |false=>exact⟨_,rfl,hk⟩
theorem rq {prog:Map ay} {f:Nat} {ts:List TV} {R K:TV->Prop} (h:VS prog f ts R) (hs:∀r,R r->lB true r/\K r):VS prog f ts (fun r=>lB true r/\K r):=h.mono hs
theorem Lk {a b:Int} (h1:-9223372036854775808<=a+b) (h2:a+b < 9223372036854775808):bf .add (.i .i64 a) (.i .i64 b)=some (.i .i64 (a+b)):=by show some (TV.i .i64 (wj .i64 (a+b)))=_;rw [Ip h1 h2]
theorem Px {a b:Int} (h1:-9223372036854775808<=a - b) (h2:a - b < 9223372036854775808):bf .sub (.i .i64 a) (.i .i64 b)=some (.i .i64 (a - b)):=by show some (TV.i .i64 (wj .i64 (a - b)))=_;rw [Ip h1 h2]
theorem bq {es:List TV} {j:Nat} {e:TV} (he:es[j]?=some e):jh (.l es) (.i .i64 j)=some e:=by
 have hj:j < es.length:=by
  rcases Nat.lt_or_ge j es.length with h|h
  ·exact h
  ·rw [qqf h] at he;cases he
 have:jm (.i .i64 (j:Int)) es.length=some j:=by show Se (j:Int) es.length=some j;have hb:Nat.blt j es.length=true:=Nat.ble_eq_true_of_le hj;show (bif Nat.blt j es.length then some j else none)=some j;rw [hb];rfl
 show (match jm (.i .i64 (j:Int)) es.length with|some k=>es[k]?|none=>none)=_;rw [this];exact he
theorem n_ {bytes:Nat} {es xs:List TV} (h1:(es.length+xs.length)*bytes<=most) (h2:es.length+xs.length<=most):ga bytes es xs=some (es++xs):=by unfold ga;rw [Nat.ble_eq_true_of_le h1,Nat.ble_eq_true_of_le h2];rfl
theorem jo {α:Type} {l:List α} {i:Nat} {x:α} (h:l[i]?=some x):l.take i++[x]=l.take (i+1):=by rw [List.take_add_one,h];rfl
end Go.Ax.V
namespace Go.Ax.V
open Go.Proofs.Ytamgnhdbeecapaa
theorem Mq {W W':World} (h:RowKit.Grown W W') {p:MemPlace} (hp:p.block < W.heap.size):W.sameAt W' p:=by
 have h1:=h.1.2.2 p.block hp;cases p with
 |cell b o=>
  change b < W.heap.size at hp;change (match W.heap[b]?,W'.heap[b]? with
   |some (.cells c t fr),some (.cells c' t' fr')=>t'=t/\fr'=fr/\c'.size=c.size/\∀j:Nat,¬False->c'[j]?=c[j]?
   |some (.map es clock),some (.map es' clock')=>False\/(es'=es/\clock'=clock)
   |o,o'=>o'=o) at h1
  show W'.cell? ⟨b,o,none⟩=W.cell? ⟨b,o,none⟩;unfold World.cell?;simp only;split at h1
  ·rename_i e1 e2;rw [e1,e2];exact h1.2.2.2 o (fun h=>h)
  ·rename_i e1 e2;rw [e1,e2]
  ·rw [h1]
 |map b=>
  change b < W.heap.size at hp;change (match W.heap[b]?,W'.heap[b]? with
   |some (.cells c t fr),some (.cells c' t' fr')=>t'=t/\fr'=fr/\c'.size=c.size/\∀j:Nat,¬False->c'[j]?=c[j]?
   |some (.map es clock),some (.map es' clock')=>False\/(es'=es/\clock'=clock)
   |o,o'=>o'=o) at h1
  show W'.heap[b]?=W.heap[b]?;split at h1
  ·rename_i e1 e2;obtain⟨rfl,rfl,hs,hc⟩:=h1;rw [e1,e2];congr 2;exact Array.ext_getElem? (fun j=>hc j (fun h=>h))
  ·rename_i e1 e2;obtain⟨rfl,rfl⟩:=h1.elim (fun h=>h.elim) (fun h=>h);rw [e1,e2]
  ·exact h1
theorem carry {H:Type} {enc:TypeId×Value->H} {P:Program} {t:TypeId} (hl:laidOutB P=true) (hr:P.readableRec t=true) (hrow:t < P.types.size) {W W':World} {v:Value} {d:DataW H} {ps:List MemPlace} {sp:Nat->Bool}
  (h:DataW.Trod enc P W 0 (fun _=>true) true t v d ps) (hg:RowKit.Grown W W') (hlt:∀x∈ps,x.block < W.heap.size) (hs:∀p∈ps,sp p.block=true):DataW.Trod enc P W' 0 sp true t v d ps:=
 WideElems.Trod_stays hl hr hrow h (fun x hx=>Mq hg (hlt x hx)) hs
section
variable {H:Type} {enc:TypeId×Value->H} {P:Program} {W:World} {L:List TypeId}
theorem Qu (hL:∀t∈L,KA P L t=true) {t:TypeId} (ht:t∈L) (ha:Ap (rowOf P t)=true) {r:Reach} {base:Nat} {v:Value} {d:DataW H} {ps:List MemPlace}
  (hval:Value.okWide P W r base t v) (h:DataW.Trod enc P W 0 (fun _=>true) true t v d ps) :
  ∃n ts az,we P n t ts/\Can (.a ts) (.agg az)/\bz Hy (fun b=>b < W.heap.size) W (.agg az) v/\fj ts+1<=Rows.uptoBulk d:=by
 obtain⟨n,hn⟩:=h;obtain⟨ts,az,ho⟩:=Hv hL n t _ _ _ ht hn;have hv:∃cs,v=.agg cs:=by
  unfold Value.okWide at hval;unfold rowOf at ha;split at ha
  case h_5 fs hu=>rw [hu] at hval;obtain⟨cs,h1,_⟩:=hval;exact⟨cs,h1⟩
  case h_6 k e hu=>rw [hu] at hval;obtain⟨cs,h1,_⟩:=hval;exact⟨cs,h1⟩
  case h_4=>split at ha<;>cases ha
  all_goals cases ha
 obtain⟨cs,rfl⟩:=hv;have hb:=ho.q9;rw [ha] at hb;refine⟨n,ts,az,ho.ty,.a _ _ ho.can.1 ho.flat ho.can.2,.agg az cs ?_ (fun j a hj=>KG (ho.flat a (qqi hj))) (fun j a w hj hw=>.pure (ho.rel j a w hj ?_)),by simpa using hb⟩
 ·have:=ho.len;simpa [Value.cells] using this
 ·simpa [Value.cells] using hw
end
end Go.Ax.V
set_option maxRecDepth 100000
namespace Go.Ax.Ft
open Go Go.Ax Go.Ax.V
inductive Ex where
 |mk (k n v:Int) (kids:List Ex)
structure Co where
 op:Int
 l:Ex
 r:Ex
mutual
inductive Sm where
 |mk (kind var chan tag:Int) (e:Ex) (c:Co) (body els:List Sm) (cu:List Ar)
inductive Ar where
 |mk (tag var:Int) (body:List Sm)
end
structure Ch where
 kind:Int
 size:Int
 src:Int
 dst:Int
 tags:Int
 rule:List (List Int)
structure Pr where
 vars:Int
 body:List Sm
structure Pg where
 au:List Ch
 procs:List Pr
def vh (k:Int):Int:=if k=1\/k=2 then 0 else if k=3 then 1 else if 4<=k/\k<=8 then 2 else -1
def within (n lo hi:Int):Bool:=decide (lo<=n)&&decide (n<=hi)
mutual
def BR (vars:Int):Ex->Bool
 |.mk k n v ks=>decide (vh k=ks.length)&&(decide (k=1)||decide (n=0))&&(decide (k=2)||decide (v=0))&&(!decide (k=2)||within v 0 (vars - 1))&&FU vars ks&&within n 0 2147483647
def FU (vars:Int):List Ex->Bool
 |[]=>true
 |e::r=>BR vars e&&FU vars r
end
def Sd (vars:Int) (c:Co):Bool:=within c.op 1 6&&BR vars c.l&&BR vars c.r
def Kk:Ex->Bool
 |.mk k n v ks=>decide (k=0)&&decide (n=0)&&decide (v=0)&&ks.isEmpty
def O8 (c:Co):Bool:=decide (c.op=0)&&Kk c.l&&Kk c.r
def BW (au:List Ch) (proc:Int) (dst:Bool) (c:Int):Bool:=
 match c with
 |.ofNat c=>match au[c]? with
  |some x=>decide ((bif dst then x.dst else x.src)=proc)
  |none=>false
 |.negSucc _=>false
def GO (au:List Ch) (c tag:Int):Bool:=match au[c.toNat]? with
 |some x=>within tag 0 (x.tags - 1)
 |none=>false
mutual
def s9 (au:List Ch) (proc vars:Int):Sm->Bool
 |.mk kind var chan tag e c body els cu=>
  if kind=1 then O8 c&&body.isEmpty&&els.isEmpty&&cu.isEmpty&&decide (chan=0)&&decide (tag=0)&&within var 0 (vars - 1)&&BR vars e
  else if kind=2 then Kk e&&cu.isEmpty&&decide (chan=0)&&decide (tag=0)&&decide (var=0)&&Sd vars c&&oq au proc vars body&&oq au proc vars els
  else if kind=3 then Kk e&&els.isEmpty&&cu.isEmpty&&decide (chan=0)&&decide (tag=0)&&decide (var=0)&&Sd vars c&&oq au proc vars body
  else if kind=4 then O8 c&&body.isEmpty&&els.isEmpty&&cu.isEmpty&&decide (var=0)&&BW au proc false chan&&GO au chan tag&&BR vars e
  else if kind=5 then Kk e&&O8 c&&body.isEmpty&&els.isEmpty&&decide (var=0)&&decide (tag=0)&&BW au proc true chan&&Ak au proc vars chan [] cu&&!cu.isEmpty
  else if kind=6 then Kk e&&body.isEmpty&&els.isEmpty&&cu.isEmpty&&decide (chan=0)&&decide (tag=0)&&decide (var=0)&&Sd vars c
  else if kind=7 then Kk e&&O8 c&&body.isEmpty&&els.isEmpty&&cu.isEmpty&&decide (chan=0)&&decide (tag=0)&&within var 0 (vars - 1)
  else false
def oq (au:List Ch) (proc vars:Int):List Sm->Bool
 |[]=>true
 |s::r=>s9 au proc vars s&&oq au proc vars r
def Ak (au:List Ch) (proc vars chan:Int) (had:List Int):List Ar->Bool
 |[]=>true
 |.mk tag var body::r=>GO au chan tag&&!had.contains tag&&within var 0 (vars - 1)&&oq au proc vars body&&Ak au proc vars chan (tag::had) r
end
def GM (len:Int) (k:Int):List Int->Int->Option Int
 |[],top=>some top
 |x::r,top=>if within x (-1) (len - 1) then GM len k r (if x=-1 then top else max (max top k) x) else none
def B3 (len tags:Int):Int->List (List Int)->Int->Option Int
 |_,[],top=>some top
 |k,row::r,top=>if (row.length:Int)=tags then match GM len k row top with
  |some top=>B3 len tags (k+1) r top
  |none=>none
  else none
def ur (c:Ch):Bool:=match B3 c.rule.length c.tags 0 c.rule 0 with
 |some top=>c.rule.isEmpty||(decide (top=(c.rule.length:Int) - 1)&&decide ((c.rule.length:Int)<=8))
 |none=>false
def ye (procs:Int) (c:Ch):Bool:=
 within c.kind 0 2&&within c.size 1 16&&within c.tags 1 4&&within c.src 0 (procs - 1)&&within c.dst 0 (procs - 1)&&!decide (c.src=c.dst)&&ur c
def oW (au:List Ch):Int->List Pr->Bool
 |_,[]=>true
 |i,x::r=>within x.vars 0 6&&oq au i x.vars x.body&&oW au (i+1) r
def vb (p:Pg):Bool:=decide (p.au.length<=4)&&decide (1<=p.procs.length)&&decide (p.procs.length<=4)&&p.au.all (ye p.procs.length)&&oW p.au 0 p.procs
structure Ed where
 src:Int
 dst:Int
 kind:Int
 var:Int
 chan:Int
 tag:Int
 e:Ex
 c:Co
structure Gr where
 nodes:Int
 bh:List Ed
 heads:List Int
def ni:Ex:=.mk 0 0 0 []
def qt:Co:=⟨0,ni,ni⟩
def Ki (op:Int):Int:=if op=1 then 2 else if op=2 then 1 else if op=3 then 6 else if op=4 then 5 else if op=5 then 4 else if op=6 then 3 else 0
def yf (c:Co):Co:=⟨Ki c.op,c.l,c.r⟩
def Gr.dm (g:Gr) (e:Ed):Gr:={g with bh:=g.bh++[e]}
def Gr.node (g:Gr):Gr:={g with nodes:=g.nodes+1}
def Gr.head (g:Gr) (a:Int):Gr:={g with heads:=g.heads++[a]}
mutual
def LH:Sm->Int->Int->Gr->Gr
 |.mk kind var chan tag e c body els cu,a,b,g=>
  if kind=1 then g.dm ⟨a,b,1,var,0,0,e,qt⟩
  else if kind=2 then
   let g1:=AS body g.nodes b (g.node.dm ⟨a,g.nodes,2,0,0,0,ni,c⟩)
   AS els g1.nodes b (g1.node.dm ⟨a,g1.nodes,2,0,0,0,ni,yf c⟩)
  else if kind=3 then AS body g.nodes a ((((g.head a).node).dm ⟨a,g.nodes,2,0,0,0,ni,c⟩).dm ⟨a,b,2,0,0,0,ni,yf c⟩)
  else if kind=4 then g.dm ⟨a,b,3,0,chan,tag,e,qt⟩
  else if kind=5 then Lx chan cu a b g
  else if kind=6 then g.dm ⟨a,b,5,0,0,0,ni,c⟩
  else if kind=7 then g.dm ⟨a,b,6,var,0,0,ni,qt⟩
  else g
def AS:List Sm->Int->Int->Gr->Gr
 |[],a,b,g=>g.dm ⟨a,b,0,0,0,0,ni,qt⟩
 |[s],a,b,g=>LH s a b g
 |s::t::r,a,b,g=>AS (t::r) g.nodes b (LH s a g.nodes g.node)
def Lx (chan:Int):List Ar->Int->Int->Gr->Gr
 |[],_,_,g=>g
 |.mk tag var body::r,a,b,g=>Lx chan r a b (AS body g.nodes b (g.node.dm ⟨a,g.nodes,4,var,chan,tag,ni,qt⟩))
end
abbrev ii (n:Int):TV:=.i .i64 n
mutual
def j9:Ex->TV
 |.mk k n v ks=>.a [ii k,ii n,ii v,.l (kg ks)]
def kg:List Ex->List TV
 |[]=>[]
 |e::r=>j9 e::kg r
end
def cE:Ex->List TV
 |.mk k n v ks=>[ii k,ii n,ii v,.l (kg ks)]
def cC (c:Co):List TV:=ii c.op::(cE c.l++cE c.r)
def GY (c:Co):TV:=.a (cC c)
mutual
def mh:Sm->TV
 |.mk kind var chan tag e c body els cu=>.a ([ii kind,ii var,ii chan,ii tag]++cE e++cC c++[.l (gh body),.l (gh els),.l (oQ cu)])
def gh:List Sm->List TV
 |[]=>[]
 |s::r=>mh s::gh r
def D7:Ar->TV
 |.mk tag var body=>.a [ii tag,ii var,.l (gh body)]
def oQ:List Ar->List TV
 |[]=>[]
 |s::r=>D7 s::oQ r
end
def lg (l:List Int):TV:=.l (l.map ii)
def c8 (c:Ch):TV:=.a [ii c.kind,ii c.size,ii c.src,ii c.dst,ii c.tags,.l (c.rule.map lg)]
def gJ (p:Pr):TV:=.a [ii p.vars,.l (gh p.body)]
def gb (p:Pg):TV:=.a [.l (p.au.map c8),.l (p.procs.map gJ)]
def dw (e:Ed):TV:=.a ([ii e.src,ii e.dst,ii e.kind,ii e.var,ii e.chan,ii e.tag]++cE e.e++cC e.c)
def gK (g:Gr):TV:=.a [ii g.nodes,.l (g.bh.map dw),.l (g.heads.map ii)]
theorem lp:∀l,kg l=l.map j9
 |[]=>rfl
 |e::r=>by simp [kg,lp r]
theorem nq:∀l,gh l=l.map mh
 |[]=>rfl
 |e::r=>by simp [gh,nq r]
theorem nr:∀l,oQ l=l.map D7
 |[]=>rfl
 |e::r=>by simp [oQ,nr r]
theorem Dj (e:Ex):cw 4 (j9 e):=by cases e;rfl
theorem Ab (e:Sm):cw 20 (mh e):=by
 cases e with
 |mk kind var chan tag e c body els cu=>cases e;cases c with|mk op l r=>cases l;cases r;rfl
theorem KQ (e:Ch):cw 6 (c8 e):=rfl
theorem Rs (e:Pr):cw 2 (gJ e):=rfl
theorem qf (e:Ed):cw 19 (dw e):=by obtain⟨_,_,_,_,_,_,e,c⟩:=e;cases e;cases c with|mk op l r=>cases l;cases r;rfl
mutual
def x_:Ex->Nat
 |.mk _ _ _ ks=>1+qp ks
def qp:List Ex->Nat
 |[]=>0
 |e::r=>x_ e+qp r
end
def Ck (c:Co):Nat:=x_ c.l+x_ c.r
mutual
def za:Sm->Nat
 |.mk _ _ _ _ e c body els cu=>5+x_ e+Ck c+fq body+fq els+ku cu
def fq:List Sm->Nat
 |[]=>0
 |s::r=>za s+fq r
def LF:Ar->Nat
 |.mk _ _ body=>2+fq body
def ku:List Ar->Nat
 |[]=>0
 |s::r=>LF s+ku r
end
theorem M1 (e:Ex):0 < x_ e:=by cases e;simp [x_];omega
theorem zg (e:Sm):0 < za e:=by cases e;simp [za];omega
theorem Sx (e:Ar):0 < LF e:=by cases e;simp [LF];omega
theorem Ay:∀{l:List Ex} {x:Ex},x∈l->x_ x<=qp l
 |e::r,x,h=>by
  simp only [qp];rcases qqw.1 h with rfl|h
  ·omega
  ·have:=Ay h;omega
theorem jr:∀{l:List Sm} {x:Sm},x∈l->za x<=fq l
 |e::r,x,h=>by
  simp only [fq];rcases qqw.1 h with rfl|h
  ·omega
  ·have:=jr h;omega
theorem uq:∀{l:List Ar} {x:Ar},x∈l->LF x<=ku l
 |e::r,x,h=>by
  simp only [ku];rcases qqw.1 h with rfl|h
  ·omega
  ·have:=uq h;omega
theorem Az:∀(l:List Ex),l.length<=qp l
 |[]=>by simp
 |e::r=>by have:=Az r;have:=M1 e;simp only [qp,qqr];omega
theorem mq:∀(l:List Sm),l.length<=fq l
 |[]=>by simp
 |e::r=>by have:=mq r;have:=zg e;simp only [fq,qqr];omega
theorem AA:∀(l:List Ar),l.length<=ku l
 |[]=>by simp
 |e::r=>by have:=AA r;have:=Sx e;simp only [ku,qqr];omega
theorem b8 {prog:Map ay} {f:Nat} {ts:List TV} {c:TV} (h:VS prog f ts (fun r=>r=c)):VS prog f ts (fun r'=>r'=c/\lB true c):=h.mono fun r hr=>⟨hr,trivial⟩
theorem gp (t:Bool):ng .not (.b t)=some (.b (!t)):=by cases t<;>rfl
theorem EE (a b:Int):bf .geq (.i .i64 a) (.i .i64 b)=some (.b (!n8 a b)):=rfl
theorem Np (a b:Int):bf .leq (.i .i64 a) (.i .i64 b)=some (.b (!n8 b a)):=rfl
theorem HC (a b:Int):bf .neq (.i .i64 a) (.i .i64 b)=some (.b (!nk a b)):=rfl
theorem c_ (a b:Int):n8 a b=decide (a < b):=AR a b
theorem bp (a b:Int):nk a b=decide (a=b):=D6 a b
theorem ny (a b:Int):(!decide (a < b))=decide (b<=a):=by
 by_cases h:a < b
 ·have:¬b<=a:=by omega
  simp [h,this]
 ·have:b<=a:=by omega
  simp [h,this]
theorem IF {t c:Bool}:ij (.b t) (bif t then .b c else qi) (.b false)=some (.b (t&&c)):=by cases t<;>rfl
theorem IE {t c:Bool}:ij (.b t) (.b true) (bif t then qi else .b c)=some (.b (t||c)):=by cases t<;>rfl
theorem ZO {P:TV->Prop} {k:TV->Prop} (hk:k qi):∃w,gV (.b false) true P w/\k w:=cr rfl hk
theorem ZM {P:TV->Prop} {k:TV->Prop} (hk:k qi):∃w,gV (.b true) false P w/\k w:=cr rfl hk
theorem Zh {t:Bool} {k:TV->Prop} (hk:k (.b false)):∃w,ij (.b t) (bif t then .b false else qi) (.b false)=some w/\k w:=by
 cases t with
 |true=>exact⟨_,rfl,hk⟩
 |false=>exact⟨_,rfl,hk⟩
theorem Zg {t:Bool} {k:TV->Prop} (hk:k (.b true)):∃w,ij (.b t) (.b true) (bif t then qi else .b true)=some w/\k w:=by
 cases t with
 |true=>exact⟨_,rfl,hk⟩
 |false=>exact⟨_,rfl,hk⟩
theorem Rb {t c:Bool} {P:TV->Prop} {k:TV->Prop} (v:TV) (hp:t=false->c=true->P v) (hk:k (bif t then qi else bif c then v else qi)):∃w,gV (bif t then qi else .b c) true P w/\k w:=by
 cases t with
 |true=>exact BU hk
 |false=>exact gB (t:=c) v (hp rfl) hk
theorem Q_ {t c:Bool} {P:TV->Prop} {k:TV->Prop} (v:TV) (hp:t=false->c=false->P v) (hk:k (bif t then qi else bif c then qi else v)):∃w,gV (bif t then qi else .b c) false P w/\k w:=by
 cases t with
 |true=>exact BU hk
 |false=>exact gO (t:=c) v (hp rfl) hk
theorem Rg {t c:Bool} {P:TV->Prop} {k:TV->Prop} (v:TV) (hp:t=true->c=true->P v) (hk:k (bif t then bif c then v else qi else qi)):∃w,gV (bif t then .b c else qi) true P w/\k w:=by
 cases t with
 |false=>exact BU hk
 |true=>exact gB (t:=c) v (hp rfl) hk
theorem Re {t c:Bool} {P:TV->Prop} {k:TV->Prop} (v:TV) (hp:t=true->c=false->P v) (hk:k (bif t then bif c then qi else v else qi)):∃w,gV (bif t then .b c else qi) false P w/\k w:=by
 cases t with
 |false=>exact BU hk
 |true=>exact gO (t:=c) v (hp rfl) hk
theorem rz {a b:Int} (h1:-9223372036854775808<=a - b:=by omega) (h2:a - b < 9223372036854775808:=by omega):bf .sub (.i .i64 a) (.i .i64 b)=some (.i .i64 (a - b)):=Px h1 h2
theorem xk {a b:Int} (h1:-9223372036854775808<=a+b:=by omega) (h2:a+b < 9223372036854775808:=by omega):bf .add (.i .i64 a) (.i .i64 b)=some (.i .i64 (a+b)):=Lk h1 h2
theorem lT {bytes:Nat} {es xs:List TV} (h1:(es.length+xs.length)*bytes<=most:=by simp only [qqq,List.length_nil,most];omega) (h2:es.length+xs.length<=most:=by simp only [qqq,List.length_nil,most];omega):ga bytes es xs=some (es++xs):=n_ h1 h2
theorem ZP {t:Bool} {P:TV->Prop} {k:TV->Prop} {v:TV} (hk:k (bif t then v else qi)) (hp:t=true->P v:=by intro h;first|(rewrite [h];(try dsimp only [cond_true,cond_false])<;>first|exact rz|exact xk|rfl|exact gp _|exact IF|exact IE|exact⟨rfl,rfl⟩)|rfl|exact⟨rfl,rfl⟩):∃w,gV (.b t) true P w/\k w:=gB v hp hk
theorem ZN {t:Bool} {P:TV->Prop} {k:TV->Prop} {v:TV} (hk:k (bif t then qi else v)) (hp:t=false->P v:=by intro h;first|(rewrite [h];(try dsimp only [cond_true,cond_false])<;>first|exact rz|exact xk|rfl|exact gp _|exact IF|exact IE|exact⟨rfl,rfl⟩)|rfl|exact⟨rfl,rfl⟩):∃w,gV (.b t) false P w/\k w:=gO v hp hk
theorem Ra {t c:Bool} {P:TV->Prop} {k:TV->Prop} {v:TV} (hk:k (bif t then qi else bif c then v else qi)) (hp:t=false->c=true->P v:=by intro h h';first|(rewrite [h];(try dsimp only [cond_true,cond_false])<;>(try rewrite [h'])<;>(try dsimp only [cond_true,cond_false])<;>first|exact rz|exact xk|rfl|exact gp _|exact IF|exact IE|exact⟨rfl,rfl⟩)|rfl|exact⟨rfl,rfl⟩):∃w,gV (bif t then qi else .b c) true P w/\k w:=Rb v hp hk
theorem Q9 {t c:Bool} {P:TV->Prop} {k:TV->Prop} {v:TV} (hk:k (bif t then qi else bif c then qi else v)) (hp:t=false->c=false->P v:=by intro h h';first|(rewrite [h];(try dsimp only [cond_true,cond_false])<;>(try rewrite [h'])<;>(try dsimp only [cond_true,cond_false])<;>first|exact rz|exact xk|rfl|exact gp _|exact IF|exact IE|exact⟨rfl,rfl⟩)|rfl|exact⟨rfl,rfl⟩):∃w,gV (bif t then qi else .b c) false P w/\k w:=Q_ v hp hk
theorem Rf {t c:Bool} {P:TV->Prop} {k:TV->Prop} {v:TV} (hk:k (bif t then bif c then v else qi else qi)) (hp:t=true->c=true->P v:=by intro h h';first|(rewrite [h];(try dsimp only [cond_true,cond_false])<;>(try rewrite [h'])<;>(try dsimp only [cond_true,cond_false])<;>first|exact rz|exact xk|rfl|exact gp _|exact IF|exact IE|exact⟨rfl,rfl⟩)|rfl|exact⟨rfl,rfl⟩):∃w,gV (bif t then .b c else qi) true P w/\k w:=Rg v hp hk
theorem Rc {t c:Bool} {P:TV->Prop} {k:TV->Prop} {v:TV} (hk:k (bif t then bif c then qi else v else qi)) (hp:t=true->c=false->P v:=by intro h h';first|(rewrite [h];(try dsimp only [cond_true,cond_false])<;>(try rewrite [h'])<;>(try dsimp only [cond_true,cond_false])<;>first|exact rz|exact xk|rfl|exact gp _|exact IF|exact IE|exact⟨rfl,rfl⟩)|rfl|exact⟨rfl,rfl⟩):∃w,gV (bif t then .b c else qi) false P w/\k w:=Re v hp hk
theorem pkFp {t:Bool}:ij (.b t) (bif t then .b false else qi) (.b false)=some (.b false):=by cases t<;>rfl
theorem pkTp {t:Bool}:ij (.b t) (.b true) (bif t then qi else .b true)=some (.b true):=by cases t<;>rfl
theorem gBp {t:Bool} {P:TV->Prop} {v:TV} (hp:t=true->P v:=by intro h;first|(rewrite [h];(try dsimp only [cond_true,cond_false])<;>first|exact rz|exact xk|rfl|exact gp _|exact IF|exact IE|exact⟨rfl,rfl⟩)|rfl|exact⟨rfl,rfl⟩|exact b8 (by assumption)|(rw [h];exact b8 (by assumption))):gV (.b t) true P (bif t then v else qi):=by
 cases t with
 |true=>exact hp rfl
 |false=>rfl
theorem gOp {t:Bool} {P:TV->Prop} {v:TV} (hp:t=false->P v:=by intro h;first|(rewrite [h];(try dsimp only [cond_true,cond_false])<;>first|exact rz|exact xk|rfl|exact gp _|exact IF|exact IE|exact⟨rfl,rfl⟩)|rfl|exact⟨rfl,rfl⟩|exact b8 (by assumption)|(rw [h];exact b8 (by assumption))):gV (.b t) false P (bif t then qi else v):=by
 cases t with
 |false=>exact hp rfl
 |true=>rfl
theorem dj {p q:Prop} (hq:q) (hp:p:=by exact rfl):p/\q:=⟨hp,hq⟩
theorem di {α:Type} {P K:α->Prop} {v:α} (hk:K v) (hp:P v:=by first|exact rz|exact xk|exact rfl|exact gp _|exact⟨rfl,rfl⟩|exact pkFp|exact pkTp|exact IF|exact IE|exact gBp|exact gOp):∃v,P v/\K v:=⟨v,hp,hk⟩
theorem lG {prog:Map ay} {f:Nat} {ts:List TV} {c:TV} {K:TV->Prop} (hk:K c) (h:VS prog f ts (fun r=>r=c):=by assumption):VS prog f ts (fun r=>lB true r/\K r):=cy h hk
theorem b9 {i n:Nat} (h:n8 (i:Int) (n:Int)=true):i < n:=by rw [AR] at h;simpa using h
theorem dy {i n:Nat} (hi:i<=n) (h:n8 (i:Int) (n:Int)=false):i=n:=by
 rw [AR] at h;have:¬(i:Int) < n:=by simpa using h
 omega
theorem bn {i n:Nat} (hi:i < n) (hn:n<=4611686018427387904):bf .add (ii i) (ii 1)=some (ii ((i+1:Nat):Int)):=by have:=Lk (a:=(i:Int)) (b:=1) (by omega) (by omega);rw [this];rfl
theorem FT (vars:Int):∀l,FU vars l=l.all (BR vars)
 |[]=>rfl
 |e::r=>by simp [FU,FT vars r]
theorem AP (au:List Ch) (proc vars:Int):∀l,oq au proc vars l=l.all (s9 au proc vars)
 |[]=>rfl
 |e::r=>by simp [oq,AP au proc vars r]
theorem oe {α:Type} {l:List α} {f:α->Bool} {i:Nat} {x:α} (hx:l[i]?=some x) (h:(l.take i).all f=true) (hf:f x=true):(l.take (i+1)).all f=true:=by rw [←jo hx];simp [h,hf]
theorem qa {α:Type} {l:List α} {f:α->Bool} {i:Nat} {x:α} (hx:l[i]?=some x) (hf:f x=false):l.all f=false:=by rw [List.all_eq_false];exact⟨x,qqi hx,by simp [hf]⟩
structure Aw (p:Pg):Prop where
 au:p.au.length<=4194304
 procs:p.procs.length<=4194304
 rules:∀c∈p.au,c.rule.length<=4194304
 rows:∀c∈p.au,∀r∈c.rule,r.length<=4194304
 body:∀x∈p.procs,fq x.body<=4194304
def kz (x:Pr):Gr:=AS x.body 0 1 ⟨2,[],[]⟩
def gI (au:List Ch) (gs:List Gr) (vars:List Int):TV:=.a [.l (au.map c8),.l (gs.map gK),.l (vars.map ii)]
end Go.Ax.Ft
namespace Go.Ax.Ft
open Go Go.Ax Go.Ax.V
structure Cf where
 pos:List Int
 vars:List (List Int)
 fe:List (List (Int×Int))
 states:List Int
def BX (m:Int×Int):TV:=.a [ii m.1,ii m.2]
def Ac (q:List (Int×Int)):TV:=.l (q.map BX)
def jw (c:Cf):TV:=.a [.l (c.pos.map ii),.l (c.vars.map lg),.l (c.fe.map Ac),.l (c.states.map ii)]
def wi (n size:Int):Bool:=decide (0<=n)&&decide (n < size)
def xl (n:Int):Bool:=decide (-2147483648<=n)&&decide (n<=2147483647)
def Oy (c:Ch) (m:Int×Int):Bool:=wi m.1 c.tags&&xl m.2
def AK (c:Ch) (q:List (Int×Int)):Bool:=q.all (Oy c)&&decide ((q.length:Int)<=c.size)
def Ag (au graphs:Nat) (c:Cf):Bool:=decide ((c.pos.length:Int)=graphs)&&decide ((c.vars.length:Int)=graphs)&&decide ((c.fe.length:Int)=au)&&decide ((c.states.length:Int)=au)
def gr0:Gr:=⟨0,[],[]⟩
def Z5:Ch:=⟨0,0,0,0,0,[]⟩
def Hq (gs:List Gr) (vs:List Int) (c:Cf) (i:Nat):Bool:=wi (c.pos.getD i 0) (gs.getD i gr0).nodes&&decide (((c.vars.getD i []).length:Int)=vs.getD i 0)&&(c.vars.getD i []).all xl
def Ia (cs:List Ch) (c:Cf) (i:Nat):Bool:=AK (cs.getD i Z5) (c.fe.getD i [])&&wi (c.states.getD i 0) (max ((cs.getD i Z5).rule.length:Int) 1)
def C4 (cs:List Ch) (gs:List Gr) (vs:List Int) (c:Cf):Bool:=Ag cs.length gs.length c&&(List.range gs.length).all (Hq gs vs c)&&(List.range cs.length).all (Ia cs c)
theorem get_map {α:Type} {f:α->TV} {l:List α} (d:α) {i:Nat} (h:i < l.length):(l.map f)[i]?=some (f (l.getD i d)):=by rw [qqe,qqa h,List.getD_eq_getElem?_getD,qqa h];rfl
theorem Hp {n i:Nat} (h:i < n):(List.range n)[i]?=some i:=by rw [List.getElem?_range h]
theorem FK {n:Nat}:(List.range n).take n=List.range n:=qqN (by simp)
structure Pu (c:Cf):Prop where
 pos:c.pos.length<=4194304
 vars:c.vars.length<=4194304
 var:∀l∈c.vars,l.length<=4194304
 fe:c.fe.length<=4194304
 queue:∀l∈c.fe,l.length<=4194304
 states:c.states.length<=4194304
theorem A5 {α:Type} {l:List α} {d:α} {i:Nat} (h:i < l.length):l.getD i d∈l:=by rw [List.getD_eq_getElem?_getD,qqa h];exact qqj h
end Go.Ax.Ft
set_option maxRecDepth 100000
namespace Go.Ax.Ft
open Go Go.Ax Go.Ax.V
def r_ (e:Ed):Sm:=
 if e.kind=0 then .mk 7 0 e.chan e.tag e.e e.c [] [] []
 else if e.kind=1 then .mk 1 e.var e.chan e.tag e.e e.c [] [] []
 else if e.kind=3 then .mk 4 e.var e.chan e.tag e.e e.c [] [] []
 else if e.kind=4 then .mk 5 0 e.chan 0 e.e e.c [] [] [.mk e.tag e.var []]
 else if e.kind=6 then .mk 7 e.var e.chan e.tag e.e e.c [] [] []
 else .mk 6 e.var e.chan e.tag e.e e.c [] [] []
structure BQ (au:List Ch) (proc vars:Int) (e:Ed):Prop where
 kind:0<=e.kind/\e.kind<=6
 var:e.kind=0->e.var=0
 ok:s9 au proc (if e.kind=0 then max vars 1 else vars) (r_ e)=true
def gq (n:Int) (l:List Ed):List Ed:=l.filter (fun e=>decide (e.src=n))
theorem yp (n:Int) (l m:List Ed):gq n (l++m)=gq n l++gq n m:=List.filter_append ..
theorem nj {n:Int} {e:Ed} {l:List Ed} (h:e.src=n):gq n (e::l)=e::gq n l:=by simp [gq,h]
theorem qe {n:Int} {e:Ed} {l:List Ed} (h:e.src≠n):gq n (e::l)=gq n l:=by simp [gq,h]
theorem lO {n:Int} {l:List Ed} (h:∀e∈l,e.src≠n):gq n l=[]:=by simp only [gq,List.filter_eq_nil_iff,qqH];exact h
inductive Ca:List Ed->Prop where
 |one (e:Ed) (h2:e.kind≠2) (h4:e.kind≠4):Ca [e]
 |two (e f:Ed) (he:e.kind=2) (hf:f.kind=2) (h:f.c=yf e.c):Ca [e,f]
 |cu (l:List Ed) (chan:Int) (hn:l≠[]) (h:∀e∈l,e.kind=4/\e.chan=chan) (ht:(l.map (·.tag)).Nodup):Ca l
inductive Way (E:List Ed) (a:Int):Int->Prop where
 |here:Way E a a
 |step {m:Int} (e:Ed) (h:Way E a m) (he:e∈E) (hs:e.src=m):Way E a e.dst
theorem Way.sub {E F:List Ed} {a b:Int} (h:Way E a b) (hs:∀e∈E,e∈F):Way F a b:=by
 induction h with
 |here=>exact .here
 |step e _ he hm ih=>exact .step e ih (hs e he) hm
theorem Way.trans {E:List Ed} {a b c:Int} (h:Way E a b) (h':Way E b c):Way E a c:=by
 induction h' with
 |here=>exact h
 |step e _ he hm ih=>exact .step e ih he hm
theorem Way.dm {E:List Ed} {a b:Int} (e:Ed) (he:e∈E) (hs:e.src=a) (hd:e.dst=b):Way E a b:=by subst hd;exact .step e .here he hs
structure Pt (au:List Ch) (proc vars a b:Int) (g g':Gr) (N:List Ed) (H:List Int) (L:List Ed):Prop where
 bh:g'.bh=g.bh++N
 heads:g'.heads=g.heads++H
 le:g.nodes<=g'.nodes
 src:∀e∈N,e.src=a\/(g.nodes<=e.src/\e.src < g'.nodes)
 dst:∀e∈N,e.dst=a\/e.dst=b\/(g.nodes<=e.dst/\e.dst < g'.nodes)
 ok:∀e∈N,BQ au proc vars e
 at_:gq a N=L
 new:∀n,g.nodes<=n->n < g'.nodes->Ca (gq n N)
 hd:∀h∈H,h=a\/(g.nodes<=h/\h < g'.nodes)
 nd:H.Nodup
 go:∀n,g.nodes<=n->n < g'.nodes->Way N a n
 EO:∃k:Int,∀r:Int->Int,r a+k<=r b->∃r':Int->Int,(∀n,n < g.nodes->r' n=r n)/\∀e∈N,e.src∈H\/r' e.src < r' e.dst
structure Il (au:List Ch) (proc vars a b:Int) (g g':Gr) (N:List Ed) (H:List Int):Prop extends Pt au proc vars a b g g' N H (gq a N) where
 leave:Ca (gq a N)
 way:Way N a b
 cnt:g'.nodes - g.nodes+1<=N.length
section
variable {au:List Ch} {proc vars:Int}
theorem Pt.nil (a b:Int) (g:Gr):Pt au proc vars a b g g [] [] [] where
 bh:=by simp
 heads:=by simp
 le:=Int.le_refl _
 src e h:=by cases h
 dst e h:=by cases h
 ok e h:=by cases h
 at_:=rfl
 new n h h':=by omega
 hd e h:=by cases h
 nd:=List.nodup_nil
 go n h h':=by omega
 EO:=⟨0,fun r _=>⟨r,fun _ _=>rfl,fun e h=>by cases h⟩⟩
theorem Pt.dm {a b:Int} {g:Gr} {e:Ed} (hs:e.src=a) (hd:e.dst=b) (ho:BQ au proc vars e):Pt au proc vars a b g (g.dm e) [e] [] [e] where
 bh:=by simp [Gr.dm]
 heads:=by simp [Gr.dm]
 le:=Int.le_refl _
 src e h:=by simp only [qqy] at h;subst h;exact .inl hs
 dst e h:=by simp only [qqy] at h;subst h;exact .inr (.inl hd)
 ok e h:=by simp only [qqy] at h;subst h;exact ho
 at_:=by rw [nj hs];rfl
 new n h h':=by simp only [Gr.dm] at h';omega
 hd e h:=by cases h
 nd:=List.nodup_nil
 go n h h':=by simp only [Gr.dm] at h';omega
 EO:=⟨1,fun r h=>⟨r,fun _ _=>rfl,fun e h'=>by simp only [qqy] at h';subst h';rw [hs,hd];exact .inr (by omega)⟩⟩
theorem Pt.par {a b:Int} {g g1 g2:Gr} {N1 N2:List Ed} {H1 H2:List Int} {L1 L2:List Ed} (ha:a < g.nodes) (hb:b < g.nodes)
  (h1:Pt au proc vars a b g g1 N1 H1 L1) (h2:Pt au proc vars a b g1 g2 N2 H2 L2) (hh:a ∉ H1\/a ∉ H2):Pt au proc vars a b g g2 (N1++N2) (H1++H2) (L1++L2) where
 bh:=by rw [h2.bh,h1.bh,List.append_assoc]
 heads:=by rw [h2.heads,h1.heads,List.append_assoc]
 le:=Int.le_trans h1.le h2.le
 src e h:=by
  have:=h1.le;have:=h2.le;rcases qqx.1 h with h|h
  ·rcases h1.src e h with h|h
   ·exact .inl h
   ·exact .inr (by omega)
  ·rcases h2.src e h with h|h
   ·exact .inl h
   ·exact .inr (by omega)
 dst e h:=by
  have:=h1.le;have:=h2.le;rcases qqx.1 h with h|h
  ·rcases h1.dst e h with h|h|h
   ·exact .inl h
   ·exact .inr (.inl h)
   ·exact .inr (.inr (by omega))
  ·rcases h2.dst e h with h|h|h
   ·exact .inl h
   ·exact .inr (.inl h)
   ·exact .inr (.inr (by omega))
 ok e h:=by
  rcases qqx.1 h with h|h
  ·exact h1.ok e h
  ·exact h2.ok e h
 at_:=by rw [yp,h1.at_,h2.at_]
 new n h h':=by
  have:=h1.le;have:=h2.le;rw [yp];by_cases hn:n < g1.nodes
  ·rw [lO (l:=N2) (fun e he=>by rcases h2.src e he with h|h<;>omega),List.append_nil];exact h1.new n h hn
  ·rw [lO (l:=N1) (fun e he=>by rcases h1.src e he with h|h<;>omega),List.nil_append];exact h2.new n (by omega) h'
 hd e h:=by
  have:=h1.le;have:=h2.le;rcases qqx.1 h with h|h
  ·rcases h1.hd e h with h|h
   ·exact .inl h
   ·exact .inr (by omega)
  ·rcases h2.hd e h with h|h
   ·exact .inl h
   ·exact .inr (by omega)
 nd:=by
  rw [List.nodup_append];refine⟨h1.nd,h2.nd,fun x hx y hy hxy=>?_⟩;subst hxy;have:=h1.le;rcases h1.hd x hx with h|h
  ·subst h;exact hh.elim (fun h=>h hx) (fun h=>h hy)
  ·rcases h2.hd x hy with h'|h'<;>omega
 go n h h':=by
  by_cases hn:n < g1.nodes
  ·exact(h1.go n h hn).sub fun e he=>List.mem_append_left _ he
  ·exact(h2.go n (by omega) h').sub fun e he=>List.mem_append_right _ he
 EO:=by
  obtain⟨k1,hk1⟩:=h1.EO;obtain⟨k2,hk2⟩:=h2.EO;refine⟨max k1 k2,fun r hr=>?_⟩;obtain⟨r1,e1,f1⟩:=hk1 r (by omega);have hle:=h1.le;obtain⟨r2,e2,f2⟩:=hk2 r1 (by rw [e1 a ha,e1 b hb];omega);refine⟨r2,fun n hn=>by rw [e2 n (by omega),e1 n hn],fun e he=>?_⟩;rcases qqx.1 he with h|h
  ·have hsl:e.src < g1.nodes:=by rcases h1.src e h with h|h<;>omega
   have hdl:e.dst < g1.nodes:=by rcases h1.dst e h with h|h|h<;>omega
   rw [e2 _ hsl,e2 _ hdl];exact(f1 e h).imp (fun h=>List.mem_append_left _ h) id
  ·exact(f2 e h).imp (fun h=>List.mem_append_right _ h) id
theorem Ca.ne {l:List Ed} (h:Ca l):l≠[]:=by
 cases h with
 |one=>simp
 |two=>simp
 |cu _ _ hn=>exact hn
theorem Pt.branch {a b:Int} {g g2:Gr} {e:Ed} {N:List Ed} {H:List Int} (ha:a < g.nodes) (hb:b < g.nodes) (hs:e.src=a) (hd:e.dst=g.nodes) (ho:BQ au proc vars e)
  (h:Il au proc vars g.nodes b (g.node.dm e) g2 N H):Pt au proc vars a b g g2 (e::N) H [e]/\a ∉ H/\Way (e::N) a b/\g2.nodes - g.nodes+1<=(e::N).length:=by
 have hn:(g.node.dm e).nodes=g.nodes+1:=rfl;have hle:=h.le;rw [hn] at hle;have hgo:Way (e::N) a g.nodes:=.dm e (qqu ..) hs hd;refine⟨?_,?_,?_,?_⟩
 ·refine⟨?_,?_,by omega,?_,?_,?_,?_,?_,?_,h.nd,?_,?_⟩
  ·rw [h.bh];simp [Gr.dm,Gr.node]
  ·rw [h.heads];simp [Gr.dm,Gr.node]
  ·intro f hf;rcases qqw.1 hf with rfl|hf
   ·exact .inl hs
   ·rcases h.src f hf with h|h<;>exact .inr (by omega)
  ·intro f hf;rcases qqw.1 hf with rfl|hf
   ·exact .inr (.inr (by omega))
   ·rcases h.dst f hf with h|h|h
    ·exact .inr (.inr (by omega))
    ·exact .inr (.inl h)
    ·exact .inr (.inr (by omega))
  ·intro f hf;rcases qqw.1 hf with rfl|hf
   ·exact ho
   ·exact h.ok f hf
  ·rw [nj hs,lO (fun f hf=>by rcases h.src f hf with h|h<;>omega)]
  ·intro n h1 h2;rw [qe (by omega)];by_cases hx:n=g.nodes
   ·subst hx;exact h.leave
   ·exact h.new n (by omega) h2
  ·intro x hx;rcases h.hd x hx with h|h<;>exact .inr (by omega)
  ·intro n h1 h2;by_cases hx:n=g.nodes
   ·subst hx;exact hgo
   ·exact hgo.trans ((h.go n (by omega) h2).sub fun f hf=>qqv _ hf)
  ·obtain⟨k,hk⟩:=h.EO;refine⟨1+k,fun r hr=>?_⟩;obtain⟨r',h1,h2⟩:=hk (fun n=>if n=g.nodes then r b - k else r n) (by simp only [if_true];rw [if_neg (by omega:¬b=g.nodes)];omega)
   refine⟨r',fun n hn=>by rw [h1 n (by omega),if_neg (by omega)],fun f hf=>?_⟩;rcases qqw.1 hf with rfl|hf
   ·right;rw [hs,hd,h1 a (by omega),h1 g.nodes (by omega),if_neg (by omega),if_pos rfl];omega
   ·exact h2 f hf
 ·intro hx;rcases h.hd a hx with h|h<;>omega
 ·exact hgo.trans (h.way.sub fun f hf=>qqv _ hf)
 ·have:=h.cnt;rw [hn] at this;rw [qqr];push_cast;omega
theorem Il.one {a b:Int} {g:Gr} {e:Ed} (hs:e.src=a) (hd:e.dst=b) (h2:e.kind≠2) (h4:e.kind≠4) (ho:BQ au proc vars e):Il au proc vars a b g (g.dm e) [e] []:=by
 have p:Pt au proc vars a b g (g.dm e) [e] [] [e]:=Pt.dm hs hd ho;refine⟨p.at_.symm▸p,?_,.dm e (qqu ..) hs hd,?_⟩
 ·rw [p.at_];exact .one e h2 h4
 ·simp only [Gr.dm,qqq];omega
theorem Il.seq {a b:Int} {g g1 g2:Gr} {N1 N2:List Ed} {H1 H2:List Int} (ha:a < g.nodes) (hb:b < g.nodes)
  (h1:Il au proc vars a g.nodes g.node g1 N1 H1) (h2:Il au proc vars g.nodes b g1 g2 N2 H2):Il au proc vars a b g g2 (N1++N2) (H1++H2):=by
 have hn:g.node.nodes=g.nodes+1:=rfl;have l1:=h1.le;have l2:=h2.le;rw [hn] at l1;have w1:∀{x},Way N1 a x->Way (N1++N2) a x:=fun h=>h.sub fun e he=>List.mem_append_left _ he
 have w2:∀{x},Way N2 g.nodes x->Way (N1++N2) a x:=fun h=>(w1 h1.way).trans (h.sub fun e he=>List.mem_append_right _ he)
 have hA:gq a (N1++N2)=gq a N1:=by rw [yp,lO (l:=N2) (fun e he=>by rcases h2.src e he with h|h<;>omega),List.append_nil]
 refine⟨⟨?_,?_,by omega,?_,?_,?_,rfl,?_,?_,?_,?_,?_⟩,by rw [hA];exact h1.leave,w2 h2.way,?_⟩
 ·rw [h2.bh,h1.bh,List.append_assoc];rfl
 ·rw [h2.heads,h1.heads,List.append_assoc];rfl
 ·intro e he;rcases qqx.1 he with he|he
  ·rcases h1.src e he with h|h
   ·exact .inl h
   ·exact .inr (by omega)
  ·rcases h2.src e he with h|h<;>exact .inr (by omega)
 ·intro e he;rcases qqx.1 he with he|he
  ·rcases h1.dst e he with h|h|h
   ·exact .inl h
   ·exact .inr (.inr (by omega))
   ·exact .inr (.inr (by omega))
  ·rcases h2.dst e he with h|h|h
   ·exact .inr (.inr (by omega))
   ·exact .inr (.inl h)
   ·exact .inr (.inr (by omega))
 ·intro e he;rcases qqx.1 he with he|he
  ·exact h1.ok e he
  ·exact h2.ok e he
 ·intro n x y;rw [yp];by_cases h:n < g1.nodes
  ·by_cases hx:n=g.nodes
   ·subst hx;rw [lO (l:=N1) (fun e he=>by rcases h1.src e he with h|h<;>omega),List.nil_append];exact h2.leave
   ·rw [lO (l:=N2) (fun e he=>by rcases h2.src e he with h|h<;>omega),List.append_nil];exact h1.new n (by omega) h
  ·rw [lO (l:=N1) (fun e he=>by rcases h1.src e he with h|h<;>omega),List.nil_append];exact h2.new n (by omega) y
 ·intro x hx;rcases qqx.1 hx with hx|hx
  ·rcases h1.hd x hx with h|h
   ·exact .inl h
   ·exact .inr (by omega)
  ·rcases h2.hd x hx with h|h<;>exact .inr (by omega)
 ·rw [List.nodup_append];refine⟨h1.nd,h2.nd,fun x hx y hy hxy=>?_⟩;subst hxy;rcases h1.hd x hx with h|h<;>rcases h2.hd x hy with h'|h'<;>omega
 ·intro n x y;by_cases h:n < g1.nodes
  ·by_cases hx:n=g.nodes
   ·subst hx;exact w1 h1.way
   ·exact w1 (h1.go n (by omega) h)
  ·exact w2 (h2.go n (by omega) y)
 ·obtain⟨k1,hk1⟩:=h1.EO;obtain⟨k2,hk2⟩:=h2.EO;refine⟨k1+k2,fun r hr=>?_⟩;obtain⟨r1,e1,f1⟩:=hk1 (fun n=>if n=g.nodes then r a+k1 else r n) (by simp only [if_true];rw [if_neg (by omega:¬a=g.nodes)];omega)
  have ea:r1 g.nodes=r a+k1:=by rw [e1 _ (by omega),if_pos rfl]
  have eb:r1 b=r b:=by rw [e1 _ (by omega),if_neg (by omega)]
  obtain⟨r2,e2,f2⟩:=hk2 r1 (by rw [ea,eb];omega);refine⟨r2,fun n hn=>by rw [e2 n (by omega),e1 n (by omega),if_neg (by omega)],fun e he=>?_⟩;rcases qqx.1 he with h|h
  ·have hsl:e.src < g1.nodes:=by rcases h1.src e h with h|h<;>omega
   have hdl:e.dst < g1.nodes:=by rcases h1.dst e h with h|h|h<;>omega
   rw [e2 _ hsl,e2 _ hdl];exact(f1 e h).imp (fun h=>List.mem_append_left _ h) id
  ·exact(f2 e h).imp (fun h=>List.mem_append_right _ h) id
 ·have c1:=h1.cnt;have c2:=h2.cnt;rw [hn] at c1;rw [qqm];push_cast;omega
theorem Il.loop {a b:Int} {g g2:Gr} {e f:Ed} {N:List Ed} {H:List Int} (ha:a < g.nodes) (hb:b < g.nodes) (hs:e.src=a) (hd:e.dst=g.nodes) (fs:f.src=a) (fd:f.dst=b)
  (ke:e.kind=2) (kf:f.kind=2) (hc:f.c=yf e.c) (ho:BQ au proc vars e) (fo:BQ au proc vars f)
  (h:Il au proc vars g.nodes a ((((g.head a).node).dm e).dm f) g2 N H):Il au proc vars a b g g2 (e::f::N) (a::H):=by
 have hn:((((g.head a).node).dm e).dm f).nodes=g.nodes+1:=rfl;have hle:=h.le;rw [hn] at hle;have hgo:Way (e::f::N) a g.nodes:=.dm e (qqu ..) hs hd;have hA:gq a (e::f::N)=[e,f]:=by rw [nj hs,nj fs,lO (fun f hf=>by rcases h.src f hf with h|h<;>omega)]
 refine⟨⟨?_,?_,by omega,?_,?_,?_,rfl,?_,?_,?_,?_,?_⟩,by rw [hA];exact .two e f ke kf hc,.dm f (by simp) fs fd,?_⟩
 ·rw [h.bh];simp [Gr.dm,Gr.node,Gr.head]
 ·rw [h.heads];simp [Gr.dm,Gr.node,Gr.head]
 ·intro x hx;rcases qqw.1 hx with rfl|hx
  ·exact .inl hs
  rcases qqw.1 hx with rfl|hx
  ·exact .inl fs
  ·rcases h.src x hx with h|h<;>exact .inr (by omega)
 ·intro x hx;rcases qqw.1 hx with rfl|hx
  ·exact .inr (.inr (by omega))
  rcases qqw.1 hx with rfl|hx
  ·exact .inr (.inl fd)
  ·rcases h.dst x hx with h|h|h
   ·exact .inr (.inr (by omega))
   ·exact .inl h
   ·exact .inr (.inr (by omega))
 ·intro x hx;rcases qqw.1 hx with rfl|hx
  ·exact ho
  rcases qqw.1 hx with rfl|hx
  ·exact fo
  ·exact h.ok x hx
 ·intro n h1 h2;rw [qe (by omega),qe (by omega)];by_cases hx:n=g.nodes
  ·subst hx;exact h.leave
  ·exact h.new n (by omega) h2
 ·intro x hx;rcases qqw.1 hx with rfl|hx
  ·exact .inl rfl
  ·rcases h.hd x hx with h|h<;>exact .inr (by omega)
 ·rw [List.nodup_cons];refine⟨fun hx=>?_,h.nd⟩;rcases h.hd a hx with h|h<;>omega
 ·intro n h1 h2;by_cases hx:n=g.nodes
  ·subst hx;exact hgo
  ·exact hgo.trans ((h.go n (by omega) h2).sub fun f hf=>by simp [hf])
 ·obtain⟨k,hk⟩:=h.EO;refine⟨0,fun r hr=>?_⟩;obtain⟨r',h1,h2⟩:=hk (fun n=>if n=g.nodes then r a - k else r n) (by simp only [if_true];rw [if_neg (by omega:¬a=g.nodes)];omega)
  refine⟨r',fun n hn=>by rw [h1 n (by omega),if_neg (by omega)],fun x hx=>?_⟩;rcases qqw.1 hx with rfl|hx
  ·left;rw [hs];simp
  rcases qqw.1 hx with rfl|hx
  ·left;rw [fs];simp
  ·exact(h2 x hx).imp (fun h=>qqv _ h) id
 ·have:=h.cnt;rw [hn] at this;simp only [qqr];push_cast;omega
theorem ed1 {var:Int} {e:Ex} {a b:Int} (h1:within var 0 (vars - 1)=true) (h2:BR vars e=true):BQ au proc vars ⟨a,b,1,var,0,0,e,qt⟩:=by refine⟨by simp,by simp,?_⟩;show s9 au proc vars (.mk 1 var 0 0 e qt [] [] [])=true;rw [s9];simp [h1,h2,O8,qt,Kk,ni]
theorem ed3 {chan tag:Int} {e:Ex} {a b:Int} (h1:BW au proc false chan=true) (h2:GO au chan tag=true) (h3:BR vars e=true):BQ au proc vars ⟨a,b,3,0,chan,tag,e,qt⟩:=by refine⟨by simp,by simp,?_⟩;show s9 au proc vars (.mk 4 0 chan tag e qt [] [] [])=true;rw [s9];simp [h1,h2,h3,O8,qt,Kk,ni]
theorem ed5 {c:Co} {a b:Int} (h:Sd vars c=true):BQ au proc vars ⟨a,b,5,0,0,0,ni,c⟩:=by refine⟨by simp,by simp,?_⟩;show s9 au proc vars (.mk 6 0 0 0 ni c [] [] [])=true;rw [s9];simp [h,Kk,ni]
theorem ed2 {c:Co} {a b:Int} (h:Sd vars c=true):BQ au proc vars ⟨a,b,2,0,0,0,ni,c⟩:=by refine⟨by simp,by simp,?_⟩;show s9 au proc vars (.mk 6 0 0 0 ni c [] [] [])=true;rw [s9];simp [h,Kk,ni]
theorem ed6 {var:Int} {a b:Int} (h:within var 0 (vars - 1)=true):BQ au proc vars ⟨a,b,6,var,0,0,ni,qt⟩:=by refine⟨by simp,by simp,?_⟩;show s9 au proc vars (.mk 7 var 0 0 ni qt [] [] [])=true;rw [s9];simp [h,Kk,ni,O8,qt]
theorem ed0 {a b:Int}:BQ au proc vars ⟨a,b,0,0,0,0,ni,qt⟩:=by refine⟨by simp,by simp,?_⟩;show s9 au proc (max vars 1) (.mk 7 0 0 0 ni qt [] [] [])=true;rw [s9];simp [Kk,ni,O8,qt,within];omega
theorem ed4 {chan tag var:Int} {a b:Int} (h1:BW au proc true chan=true) (h2:GO au chan tag=true) (h3:within var 0 (vars - 1)=true):BQ au proc vars ⟨a,b,4,var,chan,tag,ni,qt⟩:=by refine⟨by simp,by simp,?_⟩;show s9 au proc vars (.mk 5 0 chan 0 ni qt [] [] [.mk tag var []])=true;rw [s9];simp [h1,h2,h3,Kk,ni,O8,qt,Ak,oq]
theorem Ni {c:Co} (h:Sd vars c=true):Sd vars (yf c)=true:=by
 obtain⟨op,l,r⟩:=c;simp only [Sd,yf,within,qqB,qqH] at h ⊢;obtain⟨⟨⟨h1,h2⟩,h3⟩,h4⟩:=h;refine⟨⟨?_,h3⟩,h4⟩;have:op=1\/op=2\/op=3\/op=4\/op=5\/op=6:=by omega
 rcases this with rfl|rfl|rfl|rfl|rfl|rfl<;>simp [Ki]
theorem Hx:∀(l:List Ar) (chan:Int) (had:List Int),Ak au proc vars chan had l=true->(∀x∈l.map (fun x=>match x with|.mk tag _ _=>tag),x ∉ had)/\(l.map (fun x=>match x with|.mk tag _ _=>tag)).Nodup
 |[],chan,had,_=>⟨fun x h=>(by cases h),List.nodup_nil⟩
 |.mk tag var body::r,chan,had,h=>by
  simp only [Ak,qqB,qqD,List.contains_eq_mem,qqJ] at h;obtain⟨i1,i2⟩:=Hx r chan (tag::had) h.2;simp only [List.map_cons,List.nodup_cons];refine⟨fun x hx=>?_,fun hx=>i1 _ hx (qqu ..),i2⟩;rcases qqw.1 hx with rfl|hx
  ·exact h.1.1.1.2
  ·exact fun hh=>i1 x hx (qqv _ hh)
theorem uf (g:Gr) (e:Ed):(g.node.dm e).nodes=g.nodes+1:=rfl
mutual
theorem M3:∀(s:Sm) (a b:Int) (g:Gr),s9 au proc vars s=true->a < g.nodes->b < g.nodes->∃N H,Il au proc vars a b g (LH s a b g) N H
 |.mk kind var chan tag e c body els cu,a,b,g,ho,ha,hb=>by
  rw [LH];rw [s9] at ho;by_cases k1:kind=1
  ·rw [if_pos k1] at ho ⊢;simp only [qqB] at ho;exact⟨_,_,Il.one rfl rfl (by simp) (by simp) (ed1 ho.1.2 ho.2)⟩
  rw [if_neg k1] at ho ⊢;by_cases k2:kind=2
  ·rw [if_pos k2] at ho ⊢;simp only [qqB] at ho;obtain⟨⟨⟨_,hc⟩,hbd⟩,hel⟩:=ho;obtain⟨N1,H1,l1⟩:=BD body g.nodes b (g.node.dm ⟨a,g.nodes,2,0,0,0,ni,c⟩) hbd (by rw [uf];omega) (by rw [uf];omega);obtain⟨p1,n1,w1,c1⟩:=Pt.branch ha hb rfl rfl (ed2 hc) l1;have hle:=p1.le;obtain⟨N2,H2,l2⟩:=BD els (AS body g.nodes b (g.node.dm ⟨a,g.nodes,2,0,0,0,ni,c⟩)).nodes b ((AS body g.nodes b (g.node.dm ⟨a,g.nodes,2,0,0,0,ni,c⟩)).node.dm ⟨a,(AS body g.nodes b (g.node.dm ⟨a,g.nodes,2,0,0,0,ni,c⟩)).nodes,2,0,0,0,ni,yf c⟩) hel (by rw [uf];omega) (by rw [uf];omega);obtain⟨p2,n2,w2,c2⟩:=Pt.branch (a:=a) (b:=b) (by omega) (by omega) rfl rfl (ed2 (Ni hc)) l2;have p:=Pt.par ha hb p1 p2 (.inl n1);refine⟨_,_,⟨p.at_.symm▸p,?_,w1.sub fun e he=>List.mem_append_left _ he,?_⟩⟩
   ·rw [p.at_];exact .two _ _ rfl rfl rfl
   ·rw [qqm];push_cast;omega
  rw [if_neg k2] at ho ⊢;by_cases k3:kind=3
  ·rw [if_pos k3] at ho ⊢;simp only [qqB] at ho;obtain⟨⟨_,hc⟩,hbd⟩:=ho;obtain⟨N1,H1,l1⟩:=BD body g.nodes a ((((g.head a).node).dm ⟨a,g.nodes,2,0,0,0,ni,c⟩).dm ⟨a,b,2,0,0,0,ni,yf c⟩) hbd (by show g.nodes < g.nodes+1;omega) (by show a < g.nodes+1;omega);exact⟨_,_,Il.loop ha hb rfl rfl rfl rfl rfl rfl rfl (ed2 hc) (ed2 (Ni hc)) l1⟩
  rw [if_neg k3] at ho ⊢;by_cases k4:kind=4
  ·rw [if_pos k4] at ho ⊢;simp only [qqB] at ho;exact⟨_,_,Il.one rfl rfl (by simp) (by simp) (ed3 ho.1.1.2 ho.1.2 ho.2)⟩
  rw [if_neg k4] at ho ⊢;by_cases k5:kind=5
  ·rw [if_pos k5] at ho ⊢;simp only [qqB,qqD,List.isEmpty_eq_false_iff] at ho;obtain⟨⟨⟨_,hend⟩,har⟩,hne⟩:=ho;obtain⟨N,H,L,p,na,hL,ht,hw,hc⟩:=NZ chan cu a b g [] hend har ha hb;have hlen:1<=cu.length:=by cases cu with|nil=>exact absurd rfl hne|cons=>simp
   refine⟨N,H,⟨p.at_.symm▸p,?_,hw hne,by omega⟩⟩;rw [p.at_];refine .cu L chan (fun h=>?_) hL (by rw [ht];exact(Hx cu chan [] har).2);subst h;cases cu with
   |nil=>exact hne rfl
   |cons=>simp at ht
  rw [if_neg k5] at ho ⊢;by_cases k6:kind=6
  ·rw [if_pos k6] at ho ⊢;simp only [qqB] at ho;exact⟨_,_,Il.one rfl rfl (by simp) (by simp) (ed5 ho.2)⟩
  rw [if_neg k6] at ho ⊢;by_cases k7:kind=7
  ·rw [if_pos k7] at ho ⊢;simp only [qqB] at ho;exact⟨_,_,Il.one rfl rfl (by simp) (by simp) (ed6 ho.2)⟩
  rw [if_neg k7] at ho;cases ho
theorem BD:∀(l:List Sm) (a b:Int) (g:Gr),oq au proc vars l=true->a < g.nodes->b < g.nodes->∃N H,Il au proc vars a b g (AS l a b g) N H
 |[],a,b,g,ho,ha,hb=>by rw [AS];exact⟨_,_,Il.one rfl rfl (by simp) (by simp) ed0⟩
 |[s],a,b,g,ho,ha,hb=>by rw [AS];simp only [oq,Bool.and_true] at ho;exact M3 s a b g ho ha hb
 |s::t::r,a,b,g,ho,ha,hb=>by rw [AS];rw [oq,qqB] at ho;obtain⟨N1,H1,l1⟩:=M3 s a g.nodes g.node ho.1 (by show a < g.nodes+1;omega) (by show g.nodes < g.nodes+1;omega);have hle:=l1.le;have hn:g.node.nodes=g.nodes+1:=rfl;obtain⟨N2,H2,l2⟩:=BD (t::r) g.nodes b (LH s a g.nodes g.node) ho.2 (by omega) (by omega);exact⟨_,_,Il.seq ha hb l1 l2⟩
theorem NZ:∀(chan:Int) (l:List Ar) (a b:Int) (g:Gr) (had:List Int),BW au proc true chan=true->Ak au proc vars chan had l=true->a < g.nodes->b < g.nodes->
  ∃N H L,Pt au proc vars a b g (Lx chan l a b g) N H L/\a ∉ H/\(∀e∈L,e.kind=4/\e.chan=chan)/\L.map (·.tag)=l.map (fun x=>match x with|.mk tag _ _=>tag)/\(l≠[]->Way N a b)/\
   (Lx chan l a b g).nodes - g.nodes+l.length<=N.length
 |chan,[],a,b,g,had,hend,ho,ha,hb=>by rw [Lx];exact⟨[],[],[],Pt.nil a b g,by simp,by simp,rfl,fun h=>absurd rfl h,by simp⟩
 |chan,.mk tag var body::r,a,b,g,had,hend,ho,ha,hb=>by
  rw [Lx];simp only [Ak,qqB] at ho;obtain⟨⟨⟨⟨qxP,_⟩,qXC⟩,hbd⟩,hr⟩:=ho;obtain⟨N1,H1,l1⟩:=BD body g.nodes b (g.node.dm ⟨a,g.nodes,4,var,chan,tag,ni,qt⟩) hbd (by rw [uf];omega) (by rw [uf];omega);obtain⟨p1,n1,w1,c1⟩:=Pt.branch ha hb rfl rfl (ed4 hend qxP qXC) l1;have hle:=p1.le;obtain⟨N2,H2,L2,p2,n2,hL,ht,hw,hc⟩:=NZ chan r a b (AS body g.nodes b (g.node.dm ⟨a,g.nodes,4,var,chan,tag,ni,qt⟩)) (tag::had) hend hr (by omega) (by omega);refine⟨_,_,_,Pt.par ha hb p1 p2 (.inl n1),?_,?_,?_,fun _=>w1.sub fun e he=>List.mem_append_left _ he,?_⟩
  ·intro h;rcases qqx.1 h with h|h
   ·exact n1 h
   ·exact n2 h
  ·intro e he;rcases qqx.1 he with h|h
   ·simp only [qqy] at h;subst h;exact⟨rfl,rfl⟩
   ·exact hL e h
  ·simp only [List.map_append,List.map_cons,List.map_nil,ht,List.singleton_append]
  ·rw [qqm,qqr];push_cast;omega
end
end
end Go.Ax.Ft
set_option maxRecDepth 100000
namespace Go.Ax.Ft
open Go Go.Ax Go.Ax.V
theorem SP (x:Pr) {au:List Ch} {proc:Int} (h:oq au proc x.vars x.body=true):∃N H,Il au proc x.vars 0 1 ⟨2,[],[]⟩ (kz x) N H:=
 BD x.body 0 1 ⟨2,[],[]⟩ h (by decide) (by decide)
end Go.Ax.Ft
set_option maxRecDepth 100000
namespace Go.Ax.Ft
open Go Go.Ax Go.Ax.V
theorem E_:∀(l m:List Int),l.Nodup->(∀x∈l,x∈m)->l.length<=m.length
 |[],m,_,_=>by simp
 |x::l,m,hn,hs=>by rw [List.nodup_cons] at hn;have hx:=hs x (qqu ..);have h1:=E_ l (m.erase x) hn.2 (fun y hy=>(List.mem_erase_of_ne (fun h=>by subst h;exact hn.1 hy)).2 (hs y (qqv _ hy)));have h2:=List.length_erase_of_mem hx;have h3:=List.length_pos_of_mem hx;rw [qqr];omega
def cm (heads P:List Int) (v:Int) (e:Ed):Bool:=decide (e.dst=v)&&!heads.contains e.src&&!P.contains e.src
def Jm (heads P:List Int) (v:Int) (E:List Ed):Nat:=E.countP (cm heads P v)
def Oc (v:Int) (R:List Ed):Nat:=R.countP (fun e=>decide (e.dst=v))
structure Bn (nodes:Nat) (E:List Ed) (heads:List Int) (R:List Ed) (left:List Int) (ready P:List Int):Prop where
 len:left.length=nodes
 val:∀v:Nat,v < nodes->left[v]?=some ((Jm heads P v E+Oc v R:Nat):Int)
 nd:(ready++P).Nodup
 CA:∀v∈ready++P,0<=v/\v < nodes
 zero:∀v:Nat,v < nodes->((v:Int)∈ready++P↔left[v]?=some 0)
section
variable {nodes:Nat} {E:List Ed} {heads:List Int} {R:List Ed} {left ready P:List Int}
theorem Bn.le (h:Bn nodes E heads R left ready P):(ready++P).length<=nodes:=by
 have h1:(ready++P).length<=((List.range nodes).map (fun i:Nat=>(i:Int))).length:=by
  refine E_ _ _ h.nd fun x hx=>?_
  have:=h.CA x hx;rw [qqz];exact⟨x.toNat,List.mem_range.2 (by omega),by omega⟩
 simpa using h1
theorem Bn.Og {n:Int} (h:Bn nodes E heads [] left (n::ready) P) (hn:heads.contains n=true):Bn nodes E heads [] left ready (n::P):=by
 have hp:((n::ready)++P).Perm (ready++n::P):=List.perm_middle.symm;refine⟨h.len,fun v hv=>?_,hp.nodup_iff.1 h.nd,fun v hv=>h.CA v (hp.mem_iff.2 hv),fun v hv=>(hp.mem_iff.symm.trans (h.zero v hv))⟩;rw [h.val v hv];have:Jm heads (n::P) v E=Jm heads P v E:=by
  unfold Jm;apply List.countP_congr;intro e _;unfold cm;by_cases he:e.src=n
  ·rw [he,hn];simp
  ·simp [List.contains_cons,he]
 rw [this]
theorem K6 (n:Int) (hn:heads.contains n=false) (hP:P.contains n=false) (v:Int):∀E:List Ed,Jm heads P v E=Jm heads (n::P) v E+Oc v (gq n E)
 |[]=>rfl
 |e::E=>by
  have ih:=K6 n hn hP v E;unfold Jm Oc at ih ⊢;by_cases he:e.src=n
  ·rw [nj he,List.countP_cons,List.countP_cons,List.countP_cons,ih];have h1:cm heads P v e=decide (e.dst=v):=by unfold cm;rw [he,hn,hP];simp
   have h2:cm heads (n::P) v e=false:=by unfold cm;rw [he];simp
   rw [h1,h2];simp;omega
  ·rw [qe he,List.countP_cons,List.countP_cons,ih];have h1:cm heads (n::P) v e=cm heads P v e:=by unfold cm;simp [List.contains_cons,he]
   rw [h1];omega
theorem Bn.swap {n:Int} (h:Bn nodes E heads [] left (n::ready) P) (hn:heads.contains n=false):Bn nodes E heads (gq n E) left ready (n::P):=by
 have hp:((n::ready)++P).Perm (ready++n::P):=List.perm_middle.symm;have hnP:P.contains n=false:=by have:=h.nd;rw [List.cons_append,List.nodup_cons] at this;simpa using fun hm:n∈P=>this.1 (List.mem_append_right _ hm)
 refine⟨h.len,fun v hv=>?_,hp.nodup_iff.1 h.nd,fun v hv=>h.CA v (hp.mem_iff.2 hv),fun v hv=>(hp.mem_iff.symm.trans (h.zero v hv))⟩;rw [h.val v hv,K6 n hn hnP];rfl
theorem Bn.dec {e:Ed} (h:Bn nodes E heads (e::R) left ready P) (h0:0<=e.dst) (h1:e.dst < nodes) :
  ∃k:Int,left[e.dst.toNat]?=some k/\1<=k/\k<=E.length+R.length+1/\
   ((k - 1=0->Bn nodes E heads R (left.set e.dst.toNat (k - 1)) (ready++[e.dst]) P)/\(k - 1≠0->Bn nodes E heads R (left.set e.dst.toNat (k - 1)) ready P)):=by
 have hd:e.dst.toNat < nodes:=by omega
 have hi:((e.dst.toNat:Nat):Int)=e.dst:=by omega
 have hv:=h.val e.dst.toNat hd;have ht:Oc (e.dst.toNat:Int) (e::R)=Oc (e.dst.toNat:Int) R+1:=by unfold Oc;rw [List.countP_cons,hi];simp
 have hl:e.dst.toNat < left.length:=by rw [h.len];exact hd
 have b1:Jm heads P (e.dst.toNat:Int) E<=E.length:=List.countP_le_length;have b2:Oc (e.dst.toNat:Int) R<=R.length:=List.countP_le_length;rw [ht] at hv;refine⟨_,hv,by omega,by omega,?_⟩;have val':∀v:Nat,v < nodes->(left.set e.dst.toNat (((Jm heads P (e.dst.toNat:Int) E+(Oc (e.dst.toNat:Int) R+1):Nat):Int) - 1))[v]?=some ((Jm heads P v E+Oc v R:Nat):Int):=by
  intro v hvn;rw [List.getElem?_set];by_cases hx:e.dst.toNat=v
  ·subst hx;rw [if_pos rfl,if_pos hl];congr 1;omega
  ·rw [if_neg hx,h.val v hvn];have:Oc (v:Int) (e::R)=Oc (v:Int) R:=by
    unfold Oc;rw [List.countP_cons];have:decide (e.dst=(v:Int))=false:=by simp;omega
    rw [this];rfl
   rw [this]
 have notin:e.dst ∉ ready++P:=by intro hm;have:=(h.zero e.dst.toNat hd).1 (by rw [hi];exact hm);rw [hv] at this;have h2:=qqO this;omega
 refine⟨fun hk=>?_,fun hk=>?_⟩
 ·have hp:(e.dst::(ready++P)).Perm ((ready++[e.dst])++P):=by rw [List.append_assoc];exact List.perm_middle.symm
  refine⟨by rw [qqs];exact h.len,val',hp.nodup_iff.1 (List.nodup_cons.2 ⟨notin,h.nd⟩),fun v hv=>?_,fun v hvn=>?_⟩
  ·rcases qqw.1 (hp.mem_iff.2 hv) with rfl|hm
   ·exact⟨h0,h1⟩
   ·exact h.CA v hm
  ·rw [←hp.mem_iff,qqw,List.getElem?_set];by_cases hx:e.dst.toNat=v
   ·subst hx;rw [if_pos rfl,if_pos hl,hk];exact⟨fun _=>rfl,fun _=>.inl hi⟩
   ·rw [if_neg hx,←h.zero v hvn];exact⟨fun hh=>hh.resolve_left (by omega),.inr⟩
 ·refine⟨by rw [qqs];exact h.len,val',h.nd,h.CA,fun v hvn=>?_⟩;rw [List.getElem?_set];by_cases hx:e.dst.toNat=v
  ·subst hx;rw [if_pos rfl,if_pos hl];exact⟨fun hm=>absurd (by rw [hi] at hm;exact hm) notin,fun hm=>absurd (qqO hm) hk⟩
  ·rw [if_neg hx,←h.zero v hvn]
theorem least (r:Int->Int) (Q:Int->Prop):∀l:List Int,(∃v∈l,Q v)->∃v∈l,Q v/\∀w∈l,Q w->r v<=r w
 |[],h=>by obtain⟨v,hv,_⟩:=h;cases hv
 |x::l,h=>by
  by_cases hl:∃v∈l,Q v
  ·obtain⟨v,hv,hq,hm⟩:=least r Q l hl;by_cases hx:Q x/\r x < r v
   ·refine⟨x,qqu ..,hx.1,fun w hw hqw=>?_⟩;rcases qqw.1 hw with rfl|hw
    ·exact Int.le_refl _
    ·have:=hm w hw hqw;omega
   ·refine⟨v,qqv _ hv,hq,fun w hw hqw=>?_⟩;rcases qqw.1 hw with rfl|hw
    ·have:¬r w < r v:=fun h=>hx ⟨hqw,h⟩
     omega
    ·exact hm w hw hqw
  ·obtain⟨v,hv,hq⟩:=h;rcases qqw.1 hv with rfl|hv
   ·refine⟨v,qqu ..,hq,fun w hw hqw=>?_⟩;rcases qqw.1 hw with rfl|hw
    ·exact Int.le_refl _
    ·exact absurd ⟨w,hw,hqw⟩ hl
   ·exact absurd ⟨v,hv,hq⟩ hl
theorem Bn.all (h:Bn nodes E heads [] left [] P) (hr:∃r:Int->Int,∀e∈E,heads.contains e.src=true\/r e.src < r e.dst)
  (hs:∀e∈E,0<=e.src/\e.src < nodes):P.length=nodes:=by
 obtain⟨r,hr⟩:=hr;have hall:∀v:Int,0<=v->v < nodes->v∈P:=by
  intro v h0 h1;refine Classical.byContradiction fun hv=>?_
  obtain⟨w,hw,hq,hm⟩:=least r (fun v=>v ∉ P) ((List.range nodes).map (fun i:Nat=>(i:Int))) ⟨v,by rw [qqz];exact⟨v.toNat,List.mem_range.2 (by omega),by omega⟩,hv⟩;obtain⟨i,hi,rfl⟩:=qqz.1 hw;replace hi:=List.mem_range.1 hi;have hz:=mt (h.zero i hi).2 (by simpa using hq);rw [h.val i hi] at hz;have hpos:0 < Jm heads P i E:=by
   rcases Nat.eq_zero_or_pos (Jm heads P i E) with h0|h0
   ·exfalso;apply hz;rw [h0];rfl
   ·exact h0
  obtain⟨e,he,hc⟩:=List.countP_pos_iff.1 hpos;unfold cm at hc;simp only [qqB,qqH,qqD] at hc;obtain⟨⟨c1,c2⟩,c3⟩:=hc;rcases hr e he with h4|h4
  ·rw [h4] at c2;cases c2
  ·have h5:=hs e he;have:=hm e.src (by rw [qqz];exact⟨e.src.toNat,List.mem_range.2 (by omega),by omega⟩) (by simpa using c3);rw [c1] at h4;omega
 have h1:((List.range nodes).map (fun i:Nat=>(i:Int))).length<=P.length:=by
  refine E_ _ _ ?_ ?_
  ·rw [List.nodup_iff_pairwise_ne,List.pairwise_map];exact(List.nodup_iff_pairwise_ne.1 List.nodup_range).imp (by intro a b hab;omega)
  ·intro x hx;obtain⟨i,hi,rfl⟩:=qqz.1 hx;exact hall _ (by omega) (by have:=List.mem_range.1 hi;omega)
 have h2:=h.le;simp at h1 h2;omega
end
end Go.Ax.Ft
set_option maxRecDepth 100000
namespace Go.Ax.Ft
open Go Go.Ax Go.Ax.V
structure TJ (cs:List Ch) (i:Nat) (v:Int) (g:Gr):Prop where
 nodes:2<=g.nodes/\g.nodes<=802
 bh:g.bh.length<=400
 hl:g.heads.length<=4194304
 hr:∀h∈g.heads,0<=h/\h < g.nodes
 hp:g.heads.Pairwise (·< ·)
 ends:∀e∈g.bh,(0<=e.src/\e.src < g.nodes)/\0<=e.dst/\e.dst < g.nodes
 ok:∀e∈g.bh,BQ cs i v e
 sz:∀e∈g.bh,x_ e.e+Ck e.c<=4194000
 tag:∀e∈g.bh,e.kind=4->0<=e.tag/\e.tag < 4
 leave:∀n:Int,0<=n->n < g.nodes->(n=1/\gq n g.bh=[])\/(n≠1/\Ca (gq n g.bh))
 EO:∃r:Int->Int,∀e∈g.bh,g.heads.contains e.src=true\/r e.src < r e.dst
def ez (e:Ed):Nat:=x_ e.e+Ck e.c
def Lt (B:Nat) (g:Gr):Prop:=∀e∈g.bh,ez e<=B
theorem Lt.dm {B:Nat} {g:Gr} {e:Ed} (h:Lt B g) (he:ez e<=B):Lt B (g.dm e):=fun x hx=>by
 rcases qqx.1 hx with hx|hx
 ·exact h x hx
 ·rw [qqy.1 hx];exact he
theorem Lt.node {B:Nat} {g:Gr} (h:Lt B g):Lt B g.node:=h
theorem Lt.head {B:Nat} {g:Gr} {a:Int} (h:Lt B g):Lt B (g.head a):=h
theorem Vu {a b k v c t:Int}:ez ⟨a,b,k,v,c,t,ni,qt⟩=3:=rfl
theorem Vt {a b k v ch t:Int} {c:Co}:ez ⟨a,b,k,v,ch,t,ni,c⟩=1+Ck c:=rfl
theorem ZR {a b k v ch t:Int} {c:Co}:ez ⟨a,b,k,v,ch,t,ni,yf c⟩=1+Ck c:=rfl
theorem ZS {a b k v ch t:Int} {e:Ex}:ez ⟨a,b,k,v,ch,t,e,qt⟩=x_ e+2:=rfl
mutual
theorem Pz {B:Nat}:∀(s:Sm) (a b:Int) (g:Gr),za s<=B->Lt B g->Lt B (LH s a b g)
 |.mk kind var chan tag e c body els cu,a,b,g,hB,hg=>by
  have hs:za (.mk kind var chan tag e c body els cu)=5+x_ e+Ck c+fq body+fq els+ku cu:=by rw [za]
  rw [hs] at hB;rw [LH];split
  ·exact hg.dm (by rw [ZS];omega)
  split
  ·exact DW els _ b _ (by omega) ((DW body g.nodes b _ (by omega) (hg.node.dm (by rw [Vt];omega))).node.dm (by rw [ZR];omega))
  split
  ·exact DW body g.nodes a _ (by omega) ((hg.head.node.dm (by rw [Vt];omega)).dm (by rw [ZR];omega))
  split
  ·exact hg.dm (by rw [ZS];omega)
  split
  ·exact RW chan cu a b g (by omega) hg
  split
  ·exact hg.dm (by rw [Vt];omega)
  split
  ·exact hg.dm (by rw [Vu];omega)
  ·exact hg
theorem DW {B:Nat}:∀(l:List Sm) (a b:Int) (g:Gr),fq l+3<=B->Lt B g->Lt B (AS l a b g)
 |[],a,b,g,hB,hg=>by rw [AS];exact hg.dm (by rw [Vu];omega)
 |[s],a,b,g,hB,hg=>by rw [AS];exact Pz s a b g (by simp only [fq] at hB;omega) hg
 |s::t::r,a,b,g,hB,hg=>by rw [AS];simp only [fq] at hB;exact DW (t::r) g.nodes b _ (by simp only [fq];omega) (Pz s a g.nodes g.node (by omega) hg.node)
theorem RW {B:Nat}:∀(chan:Int) (l:List Ar) (a b:Int) (g:Gr),ku l+3<=B->Lt B g->Lt B (Lx chan l a b g)
 |chan,[],a,b,g,hB,hg=>by rw [Lx];exact hg
 |chan,.mk tag var body::r,a,b,g,hB,hg=>by rw [Lx];simp only [ku,LF] at hB;exact RW chan r a b _ (by omega) (DW body g.nodes b _ (by omega) (hg.node.dm (by rw [Vu];omega)))
end
theorem UT (x:Pr) {B:Nat} (hB:fq x.body+3<=B):Lt B (kz x):=DW x.body 0 1 _ hB (fun e he=>by cases he)
theorem Po {au:List Ch} {c t n:Int} (h:GO au c t=true) (hc:∀x∈au,ye n x=true):0<=t/\t < 4:=by
 unfold GO at h;split at h
 ·rename_i x hx;have:=hc x (qqi hx);simp only [ye,within,qqB,qqH] at this h;omega
 ·cases h
theorem Qy {au:List Ch} {p v n:Int} {e:Ed} (h:BQ au p v e) (hk:e.kind=4) (hc:∀x∈au,ye n x=true):0<=e.tag/\e.tag < 4:=by
 have h1:=h.ok;have hst:r_ e=.mk 5 0 e.chan 0 e.e e.c [] [] [.mk e.tag e.var []]:=by unfold r_;simp [hk]
 rw [hst] at h1;simp only [s9,Ak,Int.reduceEq,if_false,if_true,reduceIte,qqB] at h1;exact Po h1.1.2.1.1.1.1 hc
theorem Vg (l:List Int) (hn:l.Nodup) (n:Int) (h:∀x∈l,0<=x/\x < n):(l.length:Int)<=max n 0:=by
 have h1:∀(l m:List Int),l.Nodup->(∀x∈l,x∈m)->l.length<=m.length:=by
  intro l
  induction l with
  |nil=>intro m _ _;simp
  |cons x l ih=>intro m hn hs;rw [List.nodup_cons] at hn;have hx:=hs x (qqu ..);have h1:=ih (m.erase x) hn.2 (fun y hy=>(List.mem_erase_of_ne (fun h=>by subst h;exact hn.1 hy)).2 (hs y (qqv _ hy)));have h2:=List.length_erase_of_mem hx;have h3:=List.length_pos_of_mem hx;rw [qqr];omega
 have h2:=h1 l ((List.range n.toNat).map (fun i:Nat=>(i:Int))) hn (fun x hx=>by have:=h x hx;exact qqz.2 ⟨x.toNat,List.mem_range.2 (by omega),by omega⟩);simp at h2;omega
theorem ZJ {p:Pg} (hok:vb p=true) {i:Nat} {x:Pr} (hx:p.procs[i]?=some x) (h4:(kz x).bh.length<=400) (hz:fq x.body<=4193900) {hs:List Int} (hp:hs.Perm (kz x).heads) (hso:hs.Pairwise (·<=·)) :
  TJ p.au i x.vars {kz x with heads:=hs}:=by
 simp only [vb,qqB] at hok;obtain⟨⟨⟨⟨o1,o2⟩,o3⟩,o4⟩,o5⟩:=hok;have hat:∀{l:List Pr} {k:Int} {i:Nat} {x:Pr},oW p.au k l=true->l[i]?=some x->oq p.au (k+i) x.vars x.body=true:=by
  intro l
  induction l with
  |nil=>intro k i x _ h;simp at h
  |cons y l ih=>
   intro k i x h hx;simp only [oW,qqB] at h;cases i with
   |zero=>simp at hx;subst hx;simpa using h.1.2
   |succ i=>rw [show k+((i+1:Nat):Int)=k+1+i by omega];exact ih h.2 (by simpa using hx)
 have hs1:=hat o5 hx;rw [Int.zero_add] at hs1;obtain⟨N,H,l⟩:=SP x hs1;have he:(kz x).bh=N:=by rw [l.bh];rfl
 have hH:(kz x).heads=H:=by rw [l.heads];rfl
 have hn:(2:Int)<=(kz x).nodes:=l.le;have hc:(kz x).nodes - 2+1<=(N.length:Int):=by have:=l.cnt;exact this
 have hsrc:∀e∈N,e.src=0\/(2<=e.src/\e.src < (kz x).nodes):=l.src;have qxI:∀e∈N,e.dst=0\/e.dst=1\/(2<=e.dst/\e.dst < (kz x).nodes):=l.dst;have hhd:∀h∈H,h=0\/(2<=h/\h < (kz x).nodes):=l.hd;have hmem:∀h,h∈hs↔h∈H:=fun h=>by rw [←hH];exact hp.mem_iff
 have hlen:H.length<=4194304:=by have:=Vg H l.nd (kz x).nodes (fun h hh=>by have:=hhd h hh;omega);rw [he] at h4;omega
 rw [he] at h4;have hnd:hs.Nodup:=hp.nodup_iff.2 (by rw [hH];exact l.nd);obtain⟨k,hk⟩:=l.EO;obtain⟨r',_,hr'⟩:=hk (fun n=>if n=1 then k else 0) (by simp);have hlt:=UT x (B:=4194000) (by omega);have hce:∀y∈p.au,ye p.procs.length y=true:=fun y hy=>qqA.1 o4 y hy
 refine⟨⟨hn,by show (kz x).nodes<=802;omega⟩,by show (kz x).bh.length<=400;rw [he];exact h4,by show hs.length<=_;rw [hp.length_eq,hH];exact hlen,fun h hh=>?_,?_,fun e hm=>?_,fun e hm=>?_,fun e hm=>hlt e hm,fun e hm hk4=>?_,fun n n0 n1=>?_,⟨r',fun e hm=>?_⟩⟩
 ·have:=hhd h ((hmem h).1 hh);show 0<=h/\h < (kz x).nodes;omega
 ·exact(hso.and hnd).imp (fun ⟨h1,h2⟩=>by omega)
 ·have hm':e∈N:=by rw [←he];exact hm
  have h1:=hsrc e hm';have h2:=qxI e hm';show (0<=e.src/\e.src < (kz x).nodes)/\0<=e.dst/\e.dst < (kz x).nodes;omega
 ·exact l.ok e (by rw [←he];exact hm)
 ·exact Qy (l.ok e (by rw [←he];exact hm)) hk4 hce
 ·show (n=1/\gq n (kz x).bh=[])\/(n≠1/\Ca (gq n (kz x).bh));rw [he];have n1':n < (kz x).nodes:=n1;by_cases e0:n=0
  ·subst e0;exact .inr ⟨by decide,l.leave⟩
  ·by_cases e1:n=1
   ·subst e1;exact .inl ⟨rfl,lO (fun e hm=>by have:=hsrc e hm;omega)⟩
   ·exact .inr ⟨e1,l.new n (show (2:Int)<=n by omega) n1'⟩
 ·have hm':e∈N:=by rw [←he];exact hm
  rcases hr' e hm' with h|h
  ·left;show hs.contains e.src=true;simpa using (hmem e.src).2 h
  ·exact .inr h
def G9 (hs:List Int) (j:Nat) (a b:Int):List Int:=(hs.set j b).set (j+1) a
theorem swap_perm:∀(hs:List Int) (j:Nat) (a b:Int),hs[j]?=some a->hs[j+1]?=some b->(G9 hs j a b).Perm hs
 |[],j,a,b,h,_=>by simp at h
 |[x],0,a,b,_,h=>by simp at h
 |x::y::r,0,a,b,h1,h2=>by simp at h1 h2;subst h1 h2;exact List.Perm.swap _ _ _
 |x::r,j+1,a,b,h1,h2=>by have:=swap_perm r j a b (by simpa using h1) (by simpa using h2);show (x::G9 r j a b).Perm (x::r);exact this.cons x
structure TH (hs:List Int) (k j:Nat):Prop where
 jk:j<=k
 kl:k < hs.length
 ord:∀x y a b,x < y->y<=k->x≠j->y≠j->hs[x]?=some a->hs[y]?=some b->a<=b
 up:∀y a b,j < y->y<=k->hs[j]?=some a->hs[y]?=some b->a<=b
def Ord (hs:List Int) (k:Nat):Prop:=∀x y a b,x < y->y < k->hs[x]?=some a->hs[y]?=some b->a<=b
theorem TH.begin {hs:List Int} {k:Nat} (h:Ord hs k) (hk:k < hs.length):TH hs k k:=
 ⟨qqT _,hk,fun x y a b h1 h2 _ h4=>h x y a b h1 (by omega),fun y a b h1 h2=>by omega⟩
theorem TH.done {hs:List Int} {k j:Nat} (h:TH hs k j) (hd:∀a b,0 < j->hs[j - 1]?=some a->hs[j]?=some b->a<=b):Ord hs (k+1):=by
 intro x y a b hxy hyk ha hb;by_cases hy:y=j
 ·subst hy;by_cases hx:x=y - 1
  ·subst hx;exact hd a b (by omega) ha hb
  ·have hkl:=h.kl;obtain⟨c,hc⟩:∃c,hs[y - 1]?=some c:=⟨_,qqa (by omega)⟩;have h1:=h.ord x (y - 1) a c (by omega) (by omega) (by omega) (by omega) ha hc;have h2:=hd c b (by omega) hc hb;omega
 ·by_cases hx:x=j
  ·subst hx;exact h.up y a b hxy (by omega) ha hb
  ·exact h.ord x y a b hxy (by omega) hx hy ha hb
theorem TH.step {hs:List Int} {k j:Nat} {a b:Int} (h:TH hs k (j+1)) (ha:hs[j]?=some a) (hb:hs[j+1]?=some b) (hlt:b < a):TH (G9 hs j a b) k j:=by
 have hjk:=h.jk;have hkl:=h.kl;have hg:∀x,(G9 hs j a b)[x]?=if x=j+1 then some a else if x=j then some b else hs[x]?:=by
  intro x;unfold G9;rw [List.getElem?_set,List.getElem?_set,qqs];by_cases h1:x=j+1
  ·subst h1;rw [if_pos rfl,if_pos (by omega),if_pos rfl]
  ·rw [if_neg (by omega),if_neg h1];by_cases h2:x=j
   ·subst h2;rw [if_pos rfl,if_pos (by omega),if_pos rfl]
   ·rw [if_neg (by omega),if_neg h2]
 refine⟨by omega,by unfold G9;simpa using hkl,fun x y c d hxy hyk hx hy hc hd=>?_,fun y c d hy hyk hc hd=>?_⟩
 ·rw [hg] at hc hd;by_cases y1:y=j+1
  ·subst y1;rw [if_pos rfl] at hd;cases hd;rw [if_neg (by omega),if_neg (by omega)] at hc;exact h.ord x j c a (by omega) (by omega) (by omega) (by omega) hc ha
  ·rw [if_neg y1,if_neg hy] at hd;by_cases x1:x=j+1
   ·subst x1;rw [if_pos rfl] at hc;cases hc;exact h.ord j y a d (by omega) hyk (by omega) (by omega) ha hd
   ·rw [if_neg x1,if_neg hx] at hc;exact h.ord x y c d hxy hyk x1 y1 hc hd
 ·rw [hg] at hc hd;rw [if_neg (by omega),if_pos rfl] at hc;cases hc;by_cases y1:y=j+1
  ·subst y1;rw [if_pos rfl] at hd;cases hd;omega
  ·rw [if_neg y1,if_neg (by omega)] at hd;exact h.up y b d (by omega) hyk hb hd
theorem Ord.all {hs:List Int} {k:Nat} (h:Ord hs k) (hk:hs.length<=k):hs.Pairwise (·<=·):=by rw [List.pairwise_iff_getElem];intro i j hi hj hij;exact h i j _ _ hij (by omega) (qqa hi) (qqa hj)
end Go.Ax.Ft
set_option maxRecDepth 100000
namespace Go.Ax.Ft
open Go Go.Ax Go.Ax.V
inductive NE where
 |mk (k n:Int) (nm:ByteArray) (kids:List NE)
structure NC where
 op:Int
 l:NE
 r:NE
mutual
inductive NS where
 |mk (kind:Int) (nm tag:ByteArray) (e:NE) (c:NC) (body els:List NS) (cu:List NA)
inductive NA where
 |mk (tag var:ByteArray) (body:List NS)
end
structure W3 where
 nm:ByteArray
 kind:Int
 size:Int
 src:ByteArray
 dst:ByteArray
 tags:List ByteArray
structure NM where
 src:Int
 tag:ByteArray
 dst:Int
structure NR where
 chan:ByteArray
 l_:List NM
structure NP where
 nm:ByteArray
 vars:List ByteArray
 body:List NS
structure Ef where
 au:List W3
 rules:List NR
 procs:List NP
abbrev ss (x:ByteArray):TV:=.s x
def MC (l:List ByteArray):TV:=.l (l.map ss)
mutual
def GZ:NE->TV
 |.mk k n nm ks=>.a [ii k,ii n,ss nm,.l (Dl ks)]
def Dl:List NE->List TV
 |[]=>[]
 |e::r=>GZ e::Dl r
end
def W0:NE->List TV
 |.mk k n nm ks=>[ii k,ii n,ss nm,.l (Dl ks)]
def cNC (c:NC):List TV:=ii c.op::(W0 c.l++W0 c.r)
def eNC (c:NC):TV:=.a (cNC c)
mutual
def OO:NS->TV
 |.mk kind nm tag e c body els cu=>.a ([ii kind,ss nm,ss tag]++W0 e++cNC c++[.l (oX body),.l (oX els),.l (ET cu)])
def oX:List NS->List TV
 |[]=>[]
 |s::r=>OO s::oX r
def Ts:NA->TV
 |.mk tag var body=>.a [ss tag,ss var,.l (oX body)]
def ET:List NA->List TV
 |[]=>[]
 |s::r=>Ts s::ET r
end
def v_ (c:W3):TV:=.a [ss c.nm,ii c.kind,ii c.size,ss c.src,ss c.dst,MC c.tags]
def Rz (m:NM):TV:=.a [ii m.src,ss m.tag,ii m.dst]
def O9 (r:NR):TV:=.a [ss r.chan,.l (r.l_.map Rz)]
def NQ (p:NP):TV:=.a [ss p.nm,MC p.vars,.l (oX p.body)]
def cNSy (s:Ef):List TV:=[.l (s.au.map v_),.l (s.rules.map O9),.l (s.procs.map NQ)]
def Dk (s:Ef):TV:=.a (cNSy s)
theorem Z0 (e:NE):GZ e=.a (W0 e):=by cases e;rfl
theorem yu:∀l,Dl l=l.map GZ
 |[]=>rfl
 |e::r=>by simp [Dl,yu r]
theorem yt:∀l,oX l=l.map OO
 |[]=>rfl
 |e::r=>by simp [oX,yt r]
theorem Dn:∀l,ET l=l.map Ts
 |[]=>rfl
 |e::r=>by simp [ET,Dn r]
theorem I9 (e:NE):cw 4 (GZ e):=by cases e;rfl
theorem Rx (e:NS):cw 19 (OO e):=by
 cases e with
 |mk kind nm tag e c body els cu=>cases e;cases c with|mk op l r=>cases l;cases r;rfl
theorem RC (e:NA):cw 3 (Ts e):=by cases e;rfl
theorem Dm (e:W3):cw 6 (v_ e):=rfl
theorem Ry (e:NM):cw 3 (Rz e):=rfl
theorem Gn (e:NR):cw 2 (O9 e):=rfl
theorem MJ (e:NP):cw 3 (NQ e):=rfl
mutual
def Cz:NE->Nat
 |.mk _ _ nm ks=>1+nm.size+Dy ks
def Dy:List NE->Nat
 |[]=>0
 |e::r=>Cz e+Dy r
end
def N5 (c:NC):Nat:=Cz c.l+Cz c.r
mutual
def MU:NS->Nat
 |.mk _ nm tag e c body els cu=>5+nm.size+tag.size+Cz e+N5 c+kj body+kj els+um cu
def kj:List NS->Nat
 |[]=>0
 |s::r=>MU s+kj r
def Pd:NA->Nat
 |.mk tag var body=>2+tag.size+var.size+kj body
def um:List NA->Nat
 |[]=>0
 |s::r=>Pd s+um r
end
theorem Bo (e:NE):0 < Cz e:=by cases e;simp [Cz];omega
theorem Io (e:NS):0 < MU e:=by cases e;simp [MU];omega
theorem So (e:NA):0 < Pd e:=by cases e;simp [Pd];omega
theorem Fm:∀{l:List NE} {x:NE},x∈l->Cz x<=Dy l
 |e::r,x,h=>by
  simp only [Dy];rcases qqw.1 h with rfl|h
  ·omega
  ·have:=Fm h;omega
theorem Fk:∀{l:List NS} {x:NS},x∈l->MU x<=kj l
 |e::r,x,h=>by
  simp only [kj];rcases qqw.1 h with rfl|h
  ·omega
  ·have:=Fk h;omega
theorem CB:∀{l:List NA} {x:NA},x∈l->Pd x<=um l
 |e::r,x,h=>by
  simp only [um];rcases qqw.1 h with rfl|h
  ·omega
  ·have:=CB h;omega
theorem Jr:∀(l:List NE),l.length<=Dy l
 |[]=>by simp
 |e::r=>by have:=Jr r;have:=Bo e;simp only [Dy,qqr];omega
theorem Fl:∀(l:List NS),l.length<=kj l
 |[]=>by simp
 |e::r=>by have:=Fl r;have:=Io e;simp only [kj,qqr];omega
theorem Fo:∀(l:List NA),l.length<=um l
 |[]=>by simp
 |e::r=>by have:=Fo r;have:=So e;simp only [um,qqr];omega
structure Jp (s:Ef):Prop where
 au:s.au.length<=4194304
 rules:s.rules.length<=4194304
 procs:s.procs.length<=4194304
 tags:∀c∈s.au,c.tags.length<=4194304
 l_:∀r∈s.rules,r.l_.length<=4194304
 vars:∀p∈s.procs,p.vars.length<=4194304
 body:∀p∈s.procs,kj p.body<=4194304
 chan:∀c∈s.au,c.nm.size<=4194304/\c.src.size<=4194304/\c.dst.size<=4194304/\∀t∈c.tags,t.size<=4194304
 rule:∀r∈s.rules,r.chan.size<=4194304/\∀m∈r.l_,m.tag.size<=4194304
 proc:∀p∈s.procs,p.nm.size<=4194304/\∀v∈p.vars,v.size<=4194304
section
variable (nm:ByteArray->Bool)
end
end Go.Ax.Ft
