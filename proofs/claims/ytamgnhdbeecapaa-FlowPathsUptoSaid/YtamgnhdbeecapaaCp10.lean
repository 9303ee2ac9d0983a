/- Part 10 of the proof: V17, Ft, Fq, Fw, Fs. -/
import Derived.Test.YtamgnhdbeecapaaCp5
import Derived.Test.YtamgnhdbeecapaaCp7
import Derived.Test.YtamgnhdbeecapaaRows
import Derived.OpenShut
import Derived.Carry

namespace Go.Ax.V
open Go.Proofs.Ytamgnhdbeecapaa
inductive ZU where
 |bool
 |int (k:IntKind)
 |str
 |sl (e:TypeId)
 |st (fs:List TypeId)
 |ar (n:Nat) (e:TypeId)
def Dd (P:Program):List Field->Nat->Option Nat
 |[],o=>some o
 |f::fs,o=>if f.offset=o then Dd P fs (o+P.cellsOf f.type) else none
def rowOf (P:Program) (t:TypeId):Option ZU:=match P.underlying t with
 |some .bool=>some .bool
 |some (.int k)=>some (.int k)
 |some .string=>some .str
 |some (.slice e)=>if 0 < P.cellsOf e then some (.sl e) else none
 |some (.struct fs)=>if Dd P fs.toList 0=some (P.cellsOf t) then some (.st (fs.toList.map (·.type))) else none
 |some (.array n e)=>if P.cellsOf t=n*P.cellsOf e then some (.ar n e) else none
 |_=>none
def zj:Option ZU->Bool
 |some (.st _)=>true
 |some (.ar _ _)=>true
 |_=>false
def Uu (agg:Bool) (us:List TV):TV:=match agg,us with
 |true,us=>.a us
 |false,[x]=>x
 |false,_=>qv
def Vx (f:TypeId->List TV->Prop):List TypeId->List TV->Prop
 |[],ts=>ts=[]
 |t::fs,ts=>∃u r,ts=u++r/\f t u/\Vx f fs r
def vh (P:Program):Nat->TypeId->List TV->Prop
 |0,_,_=>False
 |n+1,t,ts=>match rowOf P t with
  |some .bool=>∃b,ts=[.b b]
  |some (.int k)=>∃m,ts=[.i k m]/\(Lit.int k m).wf=true
  |some .str=>∃s:ByteArray,ts=[.s s]/\s.size<=maxLen
  |some (.sl e)=>∃es:List TV,ts=[.l es]/\es.length<=maxLen/\∀(j:Nat) (x:TV),es[j]?=some x->∃us,x=Uu (zj (rowOf P e)) us/\vh P n e us
  |some (.st fs)=>Vx (vh P n) fs ts
  |some (.ar k e)=>∃tss:List (List TV),tss.length=k/\ts=tss.flatten/\∀(j:Nat) (u:List TV),tss[j]?=some u->vh P n e u
  |none=>False
def JP (P:Program) (L:List TypeId) (t:TypeId):Bool:=match rowOf P t with
 |none=>false
 |some (.sl e)=>L.contains e
 |some (.st fs)=>fs.all L.contains
 |some (.ar _ e)=>L.contains e
 |_=>true
mutual
def TV.qo:TV->Nat
 |.l es=>fm es+1
 |.a cs=>fm cs+1
 |.s b=>b.size+1
 |.i _ _=>1
 |.b _=>1
 |.f _=>1
 |.np=>1
 |.tp _=>1
 |.BK _ _=>1
def fm:List TV->Nat
 |[]=>0
 |x::xs=>x.qo+fm xs
end
theorem gD (xs ys:List TV):fm (xs++ys)=fm xs+fm ys:=by
 induction xs with
 |nil=>simp [fm]
 |cons x xs ih=>simp only [List.cons_append,fm,ih];omega
abbrev KW (W:World):Nat->Prop:=fun b=>b < W.heap.size
structure F4 (P:Program) (W:World) (bl n:Nat) (t:TypeId) (cs:List Value) (ts:List TV) (az:List AV):Prop where
 ty:vh P n t ts
 can:p_ ts az
 len:az.length=cs.length
 cells:cs.length=P.cellsOf t\/zj (rowOf P t)=false
 flat:∀x∈az,AV.flat x=true
 rel:∀(j:Nat) (a:AV) (v:Value),az[j]?=some a->cs[j]?=some v->lA (KW W) W a v
 qo:fm ts+(if zj (rowOf P t) then 1 else 0)<=bl
theorem JV {a:AV} (h:a.flat=true):a.one=true:=by cases a<;>first|rfl|cases h
theorem Kl {ts us:List TV} {az bs:List AV} (h:p_ ts az) (h':p_ us bs):p_ (ts++us) (az++bs):=by
 induction ts generalizing az with
 |nil=>
  have:az=[]:=List.length_eq_zero_iff.1 h.1.symm
  subst this;exact h'
 |cons t ts ih=>
  match az,h with
  |[],h=>simp [p_] at h
  |a::az,h=>
   exact Dz (h.2 0 t a rfl rfl) (ih ⟨by simpa using h.1,fun j u y hu hy=>h.2 (j+1) u y (by simpa using hu) (by simpa using hy)⟩)
theorem Aw {t:TV} {a:AV} (h:Can t a):p_ [t] [a]:=Dz h CS
theorem QD {w:World} {a:Addr} {m k:Nat} {v:Value} (h:w.cell? ((a.add m).add k)=some v):w.cell? ⟨a.block,a.off+(m+k),none⟩=some v:=by
 have hs:=World.cell?_spot h
 obtain⟨b,o,s⟩:=a
 by_cases hm:m=0
 ·subst hm
  by_cases hk:k=0
  ·subst hk;simp [Addr.add] at hs h ⊢;subst hs;exact h
  ·simp [Addr.add,hk] at h ⊢;exact h
 ·by_cases hk:k=0
  ·subst hk;simp [Addr.add,hm] at h ⊢;exact h
  ·simp [Addr.add,hk,hm] at h ⊢;rw [Nat.add_assoc] at h;exact h
theorem LS {w:World} {a:Addr} {v:Value} (h:w.cell? ((a.add 0).add 0)=some v):a.spot=none:=by
 simp [Addr.add] at h;exact World.cell?_spot h
theorem SI {w:World} {b o:Nat} {v:Value} (h:w.cell? ⟨b,o,none⟩=some v):b < w.heap.size:=by
 unfold World.cell? at h
 rcases Nat.lt_or_ge b w.heap.size with hb|hb
 ·exact hb
 ·rw [Array.getElem?_eq_none (by simpa using hb)] at h;cases h
section
variable {H:Type} {enc:TypeId×Value->H} {P:Program} {W:World} {L:List TypeId}
theorem Ti {n:Nat} {t:TypeId} {ts:List TV} (h:vh P n t ts) (ha:zj (rowOf P t)=false):∃x,ts=[x]/\x.one=true:=by
 cases n with
 |zero=>cases h
 |succ n=>
  unfold vh at h
  cases hr:rowOf P t with
  |none=>rw [hr] at h;cases h
  |some r=>
   rw [hr] at h ha
   cases r with
   |bool=>obtain⟨b,rfl⟩:=h;exact⟨_,rfl,rfl⟩
   |int k=>obtain⟨b,rfl,_⟩:=h;exact⟨_,rfl,rfl⟩
   |str=>obtain⟨b,rfl,_⟩:=h;exact⟨_,rfl,rfl⟩
   |sl e=>obtain⟨b,rfl,_⟩:=h;exact⟨_,rfl,rfl⟩
   |st fs=>cases ha
   |ar k e=>cases ha
theorem Nv {bl n:Nat} {t:TypeId} {cs:List Value} {ts:List TV} {az:List AV} (h:F4 P W bl n t cs ts az) :
  CX (Uu (zj (rowOf P t)) ts) az/\(Uu (zj (rowOf P t)) ts).qo<=bl:=by
 cases ha:zj (rowOf P t) with
 |true=>
  refine⟨.a _ _ h.can.1 h.can.2,?_⟩
  have:=h.qo
  rw [ha] at this
  simpa [Uu,TV.qo] using this
 |false=>
  obtain⟨x,rfl,h1⟩:=Ti h.ty ha
  have hl:=h.can.1
  match az,hl,h with
  |[y],_,h=>
   refine⟨.one _ _ h1 (h.can.2 0 _ _ rfl rfl),?_⟩
   have:=h.qo
   rw [ha] at this
   simpa [Uu,fm] using this
theorem Fg {e:TypeId} {n:Nat} {a:Addr} (hz:0 < P.cellsOf e)
  (ih:∀(cs:List Value) (d:DataW H) (ps:List MemPlace),DataW.trod enc P W 0 (fun _=>true) true n e cs=some (d,ps)->∃ts az,F4 P W (Rows.uptoBulk d) n e cs ts az) :
  ∀(xs:List (DataW H×List MemPlace)) (o:Nat),(∀i,i < xs.length->(W.cells? 0 (a.add ((o+i)*P.cellsOf e)) (P.cellsOf e)).bind (DataW.trod enc P W 0 (fun _=>true) true n e)=xs[i]?)->
   ∃(es:List TV) (cells:List AV),es.length=xs.length/\cells.length=xs.length*P.cellsOf e/\(∀x∈cells,AV.flat x=true)/\
    (∀(j:Nat) (x:TV),es[j]?=some x->CX x ((cells.drop (j*P.cellsOf e)).take (P.cellsOf e))/\∃us,x=Uu (zj (rowOf P e)) us/\vh P n e us)/\
    (∀(j:Nat) (y:AV),cells[j]?=some y->∃v,W.cell? ⟨a.block,a.off+(o*P.cellsOf e+j),none⟩=some v/\lA (KW W) W y v)/\
    fm es<=Rows.uptoBulkAll (xs.map (·.1))/\(o=0->xs≠[]->a.spot=none)
 |[],o,_=>⟨[],[],rfl,by simp,by simp,by simp,by simp,by simp [fm,Rows.uptoBulkAll],fun _ h=>absurd rfl h⟩
 |x::xs,o,h=>by
  have h0:=h 0 (by simp)
  simp only [Nat.add_zero,List.getElem?_cons_zero] at h0
  obtain⟨cs,hc,ht⟩:=Option.bind_eq_some_iff.1 h0
  obtain⟨_,hcl,hce⟩:=World.cells?_some hc
  obtain⟨ts,az,ho⟩:=ih cs x.1 x.2 ht
  obtain⟨es,cells,e1,e2,e3,e4,e5,e6,_⟩:=Fg hz ih xs (o+1) (fun i hi=>by
   have:=h (i+1) (by simpa using hi)
   rw [List.getElem?_cons_succ] at this
   rw [←this]
   congr 3
   congr 1
   omega)
  obtain⟨c1,c2⟩:=Nv ho
  have hal:az.length=P.cellsOf e:=by rw [ho.len,hcl]
  refine⟨Uu (zj (rowOf P e)) ts::es,az++cells,by simp [e1],by simp [hal,e2,Nat.add_mul];omega,?_,?_,?_,?_,?_⟩
  ·intro y hy
   rcases List.mem_append.1 hy with hy|hy
   ·exact ho.flat y hy
   ·exact e3 y hy
  ·intro j y hy
   cases j with
   |zero=>
    simp only [List.getElem?_cons_zero,Option.some.injEq] at hy
    subst hy
    refine⟨?_,ts,rfl,ho.ty⟩
    simpa [←hal] using c1
   |succ j=>
    obtain⟨f1,f2⟩:=e4 j y (by simpa using hy)
    refine⟨?_,f2⟩
    have:(j+1)*P.cellsOf e=az.length+j*P.cellsOf e:=by rw [hal,Nat.add_mul];omega
    rw [this,←List.drop_drop,List.drop_left]
    exact f1
  ·intro j y hy
   by_cases hj:j < az.length
   ·rw [List.getElem?_append_left hj] at hy
    have hv:cs[j]?=some (cs[j]'(by rw [←ho.len];exact hj)):=List.getElem?_eq_getElem _
    refine⟨_,?_,ho.rel j y _ hy hv⟩
    have:=hce j (by rw [hal] at hj;exact hj)
    rw [hv] at this
    exact QD this
   ·rw [List.getElem?_append_right (by omega)] at hy
    obtain⟨v,g1,g2⟩:=e5 _ _ hy
    refine⟨v,?_,g2⟩
    rw [←g1]
    congr 2
    rw [Nat.add_mul,hal]
    omega
  ·simp only [fm,List.map_cons,Rows.uptoBulkAll]
   omega
  ·rintro rfl _
   have:=hce 0 hz
   obtain⟨v,hv⟩:∃v,cs[0]?=some v:=by rw [List.getElem?_eq_getElem (by omega)];exact⟨_,rfl⟩
   rw [hv] at this
   simp only [Nat.zero_mul] at this
   exact LS this
theorem DQ {n:Nat} {cs:List Value}
  (ih:∀(t:TypeId) (cs:List Value) (d:DataW H) (ps:List MemPlace),t∈L->DataW.trod enc P W 0 (fun _=>true) true n t cs=some (d,ps)->∃ts az,F4 P W (Rows.uptoBulk d) n t cs ts az) :
  ∀(fs:List Field) (xs:List (DataW H×List MemPlace)) (o:Nat),Dd P fs o=some cs.length->(∀f∈fs,f.type∈L)->xs.length=fs.length->
   (∀(i:Nat) (f:Field),fs[i]?=some f->DataW.trod enc P W 0 (fun _=>true) true n f.type ((cs.drop f.offset).take (P.cellsOf f.type))=xs[i]?)->
   ∃ts az,Vx (vh P n) (fs.map (·.type)) ts/\p_ ts az/\az.length=(cs.drop o).length/\(∀x∈az,AV.flat x=true)/\
    (∀(j:Nat) (a:AV) (v:Value),az[j]?=some a->(cs.drop o)[j]?=some v->lA (KW W) W a v)/\fm ts<=Rows.uptoBulkAll (xs.map (·.1))
 |[],xs,o,hok,_,hl,_=>by
  cases hok
  exact⟨[],[],rfl,CS,by simp,by simp,by simp,by simp [fm]⟩
 |f::fs,xs,o,hok,hL,hl,h=>by
  unfold Dd at hok
  split at hok
  case isFalse=>cases hok
  case isTrue hf=>
  match xs,hl with
  |x::xs,hl=>
  have h0:=h 0 f rfl
  simp only [List.getElem?_cons_zero] at h0
  obtain⟨ts,az,ho⟩:=ih _ _ x.1 x.2 (hL f (by simp)) h0
  obtain⟨ts',az',g1,g2,g3,g4,g5,g6⟩:=DQ ih fs xs _ hok (fun f' hf'=>hL f' (by simp [hf'])) (by simpa using hl) (fun i f' hf'=>by
   have:=h (i+1) f' (by simpa using hf')
   simpa using this)
  have hmono:∀(fs:List Field) (o z:Nat),Dd P fs o=some z->o<=z:=by
   intro fs
   induction fs with
   |nil=>intro o z hz;cases hz;exact Nat.le_refl _
   |cons f fs ihf=>
    intro o z hz
    unfold Dd at hz
    split at hz
    ·have:=ihf _ _ hz;omega
    ·cases hz
  have hle:=hmono _ _ _ hok
  have hal:az.length=P.cellsOf f.type:=by
   rw [ho.len,List.length_take,List.length_drop,hf];omega
  refine⟨ts++ts',az++az',⟨ts,ts',rfl,ho.ty,g1⟩,Kl ho.can g2,?_,?_,?_,?_⟩
  ·rw [List.length_append,g3,hal,List.length_drop,List.length_drop];omega
  ·intro y hy
   rcases List.mem_append.1 hy with hy|hy
   ·exact ho.flat y hy
   ·exact g4 y hy
  ·intro j a v ha hv
   by_cases hj:j < az.length
   ·rw [List.getElem?_append_left hj] at ha
    refine ho.rel j a v ha ?_
    rw [List.getElem?_take,if_pos (by omega),hf]
    exact hv
   ·rw [List.getElem?_append_right (by omega)] at ha
    refine g5 _ a v ha ?_
    rw [List.getElem?_drop] at hv ⊢
    rw [←hv]
    congr 1
    omega
  ·rw [gD]
   have:=ho.qo
   simp only [List.map_cons,Rows.uptoBulkAll]
   omega
theorem DP {e:TypeId} {n:Nat} {cs:List Value}
  (ih:∀(cs:List Value) (d:DataW H) (ps:List MemPlace),DataW.trod enc P W 0 (fun _=>true) true n e cs=some (d,ps)->∃ts az,F4 P W (Rows.uptoBulk d) n e cs ts az) :
  ∀(xs:List (DataW H×List MemPlace)) (o:Nat),cs.length=(o+xs.length)*P.cellsOf e->
   (∀i,i < xs.length->DataW.trod enc P W 0 (fun _=>true) true n e ((cs.drop ((o+i)*P.cellsOf e)).take (P.cellsOf e))=xs[i]?)->
   ∃(tss:List (List TV)) (az:List AV),tss.length=xs.length/\(∀(j:Nat) (u:List TV),tss[j]?=some u->vh P n e u)/\p_ tss.flatten az/\az.length=(cs.drop (o*P.cellsOf e)).length/\(∀x∈az,AV.flat x=true)/\
    (∀(j:Nat) (a:AV) (v:Value),az[j]?=some a->(cs.drop (o*P.cellsOf e))[j]?=some v->lA (KW W) W a v)/\fm tss.flatten<=Rows.uptoBulkAll (xs.map (·.1))
 |[],o,hl,_=>⟨[],[],rfl,by simp,CS,by simp [hl],by simp,by simp,by simp [fm]⟩
 |x::xs,o,hl,h=>by
  have h0:=h 0 (by simp)
  simp only [Nat.add_zero,List.getElem?_cons_zero] at h0
  obtain⟨ts,az,ho⟩:=ih _ x.1 x.2 h0
  have hlen:(o+1)*P.cellsOf e<=cs.length:=by
   rw [hl]
   exact Nat.mul_le_mul_right _ (by simp)
  have hal:az.length=P.cellsOf e:=by
   rw [ho.len,List.length_take,List.length_drop]
   rw [Nat.add_mul] at hlen
   omega
  obtain⟨tss,az',g0,g1,g2,g3,g4,g5,g6⟩:=DP ih xs (o+1) (by rw [hl];congr 1;simp;omega) (fun i hi=>by
   have:=h (i+1) (by simpa using hi)
   rw [List.getElem?_cons_succ] at this
   rw [←this]
   congr 4
   omega)
  refine⟨ts::tss,az++az',by simp [g0],?_,?_,?_,?_,?_,?_⟩
  ·intro j u hu
   cases j with
   |zero=>simp at hu;subst hu;exact ho.ty
   |succ j=>exact g1 j u (by simpa using hu)
  ·exact Kl ho.can g2
  ·rw [List.length_append,g3,hal,List.length_drop,List.length_drop]
   rw [Nat.add_mul] at hlen ⊢
   omega
  ·intro y hy
   rcases List.mem_append.1 hy with hy|hy
   ·exact ho.flat y hy
   ·exact g4 y hy
  ·intro j a v ha hv
   by_cases hj:j < az.length
   ·rw [List.getElem?_append_left hj] at ha
    refine ho.rel j a v ha ?_
    rw [List.getElem?_take,if_pos (by omega)]
    exact hv
   ·rw [List.getElem?_append_right (by omega)] at ha
    refine g5 _ a v ha ?_
    rw [List.getElem?_drop] at hv ⊢
    rw [←hv]
    congr 1
    rw [Nat.add_mul]
    omega
  ·rw [List.flatten_cons,gD]
   have:=ho.qo
   simp only [List.map_cons,Rows.uptoBulkAll]
   omega
theorem GP (hL:∀t∈L,JP P L t=true):∀(n:Nat) (t:TypeId) (cs:List Value) (d:DataW H) (ps:List MemPlace),t∈L->DataW.trod enc P W 0 (fun _=>true) true n t cs=some (d,ps)->
  ∃ts az,F4 P W (Rows.uptoBulk d) n t cs ts az
 |0,t,cs,d,ps,_,h=>by simp [DataW.trod] at h
 |n+1,t,cs,d,ps,ht,h=>by
  have hg:=hL t ht
  unfold JP at hg
  cases hr:rowOf P t with
  |none=>rw [hr] at hg;cases hg
  |some r=>
   rw [hr] at hg
   have hr0:=hr
   unfold rowOf at hr
   have ih:=GP hL n
   split at hr
   case h_1 hu=>
    cases hr
    obtain⟨b,rfl,e⟩:=DataW.trod_bool hu h
    cases e
    refine⟨[.b b],[.bool b],?_,Aw (.b b),rfl,.inr (by rw [hr0];rfl),by simp [AV.flat],?_,by rw [hr0];simp [fm,TV.qo,Rows.uptoBulk,zj]⟩
    ·unfold vh;rw [hr0];exact⟨b,rfl⟩
    ·intro j a v ha hv
     cases j with
     |zero=>simp at ha hv;subst ha;subst hv;exact .bool b
     |succ j=>simp at ha
   case h_2 k hu=>
    cases hr
    obtain⟨m,rfl,e,hw⟩:=DataW.trod_int hu h
    cases e
    refine⟨[.i k m],[.int k m],?_,Aw (.i k m),rfl,.inr (by rw [hr0];rfl),by simp [AV.flat],?_,by rw [hr0];simp [fm,TV.qo,Rows.uptoBulk,zj]⟩
    ·unfold vh;rw [hr0];exact⟨m,rfl,hw⟩
    ·intro j a v ha hv
     cases j with
     |zero=>simp at ha hv;subst ha;subst hv;exact .int k m
     |succ j=>simp at ha
   case h_3 hu=>
    cases hr
    obtain⟨s,rfl,e,hw⟩:=DataW.trod_string hu h
    cases e
    refine⟨[.s s],[.str s],?_,Aw (.s s),rfl,.inr (by rw [hr0];rfl),by simp [AV.flat],?_,by rw [hr0];simp [fm,TV.qo,Rows.uptoBulk,zj]⟩
    ·unfold vh;rw [hr0];exact⟨s,rfl,hw⟩
    ·intro j a v ha hv
     cases j with
     |zero=>simp at ha hv;subst ha;subst hv;exact .str s
     |succ j=>simp at ha
   case h_4 e hu=>
    split at hr
    case isFalse=>cases hr
    case isTrue hz=>
    cases hr
    have he:e∈L:=by simpa using hg
    rcases DataW.trod_slice hu h with ⟨rfl,ex⟩|⟨a,len,cap,elems,rest,m,hm,rfl,ex,_,hlc,hcm,hel,hes,_,_⟩
    ·cases ex
     refine⟨[.l []],[.aq],?_,Aw .nil,rfl,.inr (by rw [hr0];rfl),by simp [AV.flat],?_,by rw [hr0];simp [fm,TV.qo,Rows.uptoBulk,zj]⟩
     ·unfold vh;rw [hr0];exact⟨[],rfl,by simp,by simp⟩
     ·intro j a v ha hv
      cases j with
      |zero=>simp at ha hv;subst ha;subst hv;exact .aq
      |succ j=>simp at ha
    ·cases ex
     obtain rfl:n=m:=by omega
     obtain⟨es,cells,e1,e2,e3,e4,e5,e6,e7⟩:=Fg (a:=a) hz (fun cs d ps hh=>ih e cs d ps he hh) elems 0 (fun i hi=>by rw [Nat.zero_add];exact hes i (by omega))
     refine⟨[.l es],[.jq cells len none],?_,Aw ?_,rfl,.inr (by rw [hr0];rfl),by simp [AV.flat],?_,?_⟩
     ·unfold vh;rw [hr0]
      refine⟨es,rfl,by omega,fun j x hx=>(e4 j x hx).2⟩
     ·exact .jq es cells len (P.cellsOf e) none (by omega) (by rw [e2,hel]) hz e3 (fun j x hx=>(e4 j x hx).1)
     ·intro j y v hy hv
      cases j with
      |succ j=>simp at hy
      |zero=>
       simp at hy hv;subst hy;subst hv
       refine .jq cells len none a cap (fun j=>(W.cell? ⟨a.block,a.off+j,none⟩).getD default) ?_ hlc (by simp) (fun j y hy=>JV (e3 y (List.mem_of_getElem? hy))) ?_ ?_
       ·intro hne
        have hx:elems≠[]:=by rintro rfl;apply hne;apply List.length_eq_zero_iff.1;rw [e2];simp
        refine⟨e7 rfl hx,?_⟩
        obtain⟨y,hy⟩:∃y,cells[0]?=some y:=by
         cases cells with
         |nil=>exact absurd rfl hne
         |cons y _=>exact⟨y,rfl⟩
        obtain⟨v,hv,_⟩:=e5 0 y hy
        exact SI hv
       ·intro j hj
        obtain⟨v,hv,_⟩:=e5 j _ (List.getElem?_eq_getElem hj)
        simp only [Nat.zero_mul,Nat.zero_add] at hv
        rw [hv];rfl
       ·intro j y hy
        obtain⟨v,hv,hrel⟩:=e5 j y hy
        simp only [Nat.zero_mul,Nat.zero_add] at hv
        simp only [hv,Option.getD_some]
        exact hrel
     ·rw [hr0]
      simp only [fm,TV.qo,Rows.uptoBulk,zj]
      simp
      omega
   case h_5 fs hu=>
    split at hr
    case isFalse=>cases hr
    case isTrue hz=>
    cases hr
    obtain⟨xs,m,hm,ex,hcl,hxl,hxs⟩:=DataW.trod_struct hu h
    cases ex
    obtain rfl:n=m:=by omega
    have hall:∀f∈fs.toList,f.type∈L:=by
     intro f hf
     have:=List.all_eq_true.1 hg f.type (List.mem_map_of_mem hf)
     simpa using this
    obtain⟨ts,az,g1,g2,g3,g4,g5,g6⟩:=DQ (L:=L) (cs:=cs) (fun t cs d ps hl hh=>ih t cs d ps hl hh) fs.toList xs 0 (by rw [hz,hcl]) hall (by simpa using hxl) (fun i f hf=>hxs i f (by simpa using hf))
    refine⟨ts,az,?_,g2,by simpa using g3,.inl hcl,g4,fun j a v ha hv=>g5 j a v ha (by simpa using hv),?_⟩
    ·unfold vh;rw [hr0];exact g1
    ·rw [hr0]
     simp only [Rows.uptoBulk,zj]
     simp
     omega
   case h_6 k e hu=>
    split at hr
    case isFalse=>cases hr
    case isTrue hz=>
    cases hr
    have he:e∈L:=by simpa using hg
    obtain⟨xs,m,hm,ex,hcl,hxl,hxs⟩:=DataW.trod_array hu h
    cases ex
    obtain rfl:n=m:=by omega
    obtain⟨tss,az,g0,g1,g2,g3,g4,g5,g6⟩:=DP (cs:=cs) (fun cs d ps hh=>ih e cs d ps he hh) xs 0 (by rw [hcl,hz,hxl];simp) (fun i hi=>by rw [Nat.zero_add];exact hxs i (by omega))
    refine⟨tss.flatten,az,?_,g2,by simpa using g3,.inl hcl,g4,fun j a v ha hv=>g5 j a v ha (by simpa using hv),?_⟩
    ·unfold vh;rw [hr0];exact⟨tss,by omega,rfl,g1⟩
    ·rw [hr0]
     simp only [Rows.uptoBulk,zj]
     simp
     omega
   case h_7=>cases hr
end
end Go.Ax.V
namespace Go.Ax.V
theorem eq_f {a b:Int} (h:a≠b):mh a b=false:=by rw [BV];simpa using h
theorem gB {t:Bool} {P:TV->Prop} {k:TV->Prop} (v:TV) (hp:t=true->P v) (hk:k (bif t then v else qv)):∃w,gV (.b t) true P w/\k w:=by
 cases t with
 |true=>exact ax rfl (hp rfl) hk
 |false=>exact bu rfl hk
theorem gO {t:Bool} {P:TV->Prop} {k:TV->Prop} (v:TV) (hp:t=false->P v) (hk:k (bif t then qv else v)):∃w,gV (.b t) false P w/\k w:=by
 cases t with
 |false=>exact ax rfl (hp rfl) hk
 |true=>exact bu rfl hk
theorem jt {t c:Bool} {k:TV->Prop} (hk:k (.b (t&&c))):∃w,bf (.b t) (bif t then .b c else qv) (.b false)=some w/\k w:=by
 cases t with
 |true=>exact⟨_,rfl,hk⟩
 |false=>exact⟨_,rfl,hk⟩
theorem kq {t c:Bool} {k:TV->Prop} (hk:k (.b (t||c))):∃w,bf (.b t) (.b true) (bif t then qv else .b c)=some w/\k w:=by
 cases t with
 |true=>exact⟨_,rfl,hk⟩
 |false=>exact⟨_,rfl,hk⟩
theorem oK {prog:Map bk} {f:Nat} {ts:List TV} {R K:TV->Prop} (h:VS prog f ts R) (hs:∀r,R r->bz true r/\K r):VS prog f ts (fun r=>bz true r/\K r):=h.mono hs
theorem M3 {a b:Int} (h1:-9223372036854775808<=a+b) (h2:a+b < 9223372036854775808):b8 .add (.i .i64 a) (.i .i64 b)=some (.i .i64 (a+b)):=by
 show some (TV.i .i64 (oJ .i64 (a+b)))=_;rw [AG h1 h2]
theorem SX {a b:Int} (h1:-9223372036854775808<=a - b) (h2:a - b < 9223372036854775808):b8 .sub (.i .i64 a) (.i .i64 b)=some (.i .i64 (a - b)):=by
 show some (TV.i .i64 (oJ .i64 (a - b)))=_;rw [AG h1 h2]
theorem YQ {a b:Int} (h1:-9223372036854775808<=a*b) (h2:a*b < 9223372036854775808):b8 .mul (.i .i64 a) (.i .i64 b)=some (.i .i64 (a*b)):=by
 show some (TV.i .i64 (oJ .i64 (a*b)))=_;rw [AG h1 h2]
theorem Yx {a b:Int} (h0:b≠0) (h1:-9223372036854775808<=a.tdiv b) (h2:a.tdiv b < 9223372036854775808):b8 .quo (.i .i64 a) (.i .i64 b)=some (.i .i64 (a.tdiv b)):=by
 show (match (bif mh b 0 then none else some (.int .i64 (oJ .i64 (a.tdiv b))):Option AV) with|some r=>JW r|none=>none)=_
 rw [eq_f h0,AG h1 h2];rfl
theorem eu {es:List TV} {j:Nat} {e:TV} (he:es[j]?=some e):oW (.l es) (.i .i64 j)=some e:=by
 have hj:j < es.length:=by
  rcases Nat.lt_or_ge j es.length with h|h
  ·exact h
  ·rw [List.getElem?_eq_none h] at he;cases he
 have:dz (.i .i64 (j:Int)) es.length=some j:=by
  show Rn (j:Int) es.length=some j
  have hb:Nat.blt j es.length=true:=Nat.ble_eq_true_of_le hj
  show (bif Nat.blt j es.length then some j else none)=some j
  rw [hb];rfl
 show (match dz (.i .i64 (j:Int)) es.length with|some k=>es[k]?|none=>none)=_
 rw [this];exact he
theorem x_ {bytes:Nat} {es xs:List TV} (h1:(es.length+xs.length)*bytes<=most) (h2:es.length+xs.length<=most):gw bytes es xs=some (es++xs):=by
 unfold gw
 rw [Nat.ble_eq_true_of_le h1,Nat.ble_eq_true_of_le h2];rfl
theorem l_ {α:Type} {l:List α} {i:Nat} {x:α} (h:l[i]?=some x):l.take i++[x]=l.take (i+1):=by
 rw [List.take_add_one,h];rfl
end Go.Ax.V
namespace Go.Ax.V
open Go.Proofs.Ytamgnhdbeecapaa
theorem Ls {W W':World} (h:RowKit.Grown W W') {p:MemPlace} (hp:p.block < W.heap.size):W.sameAt W' p:=by
 have h1:=h.1.2.2 p.block hp
 cases p with
 |cell b o=>
  change b < W.heap.size at hp
  change (match W.heap[b]?,W'.heap[b]? with
   |some (.cells c t fr),some (.cells c' t' fr')=>t'=t/\fr'=fr/\c'.size=c.size/\∀j:Nat,¬False->c'[j]?=c[j]?
   |some (.map es clock),some (.map es' clock')=>False\/(es'=es/\clock'=clock)
   |o,o'=>o'=o) at h1
  show W'.cell? ⟨b,o,none⟩=W.cell? ⟨b,o,none⟩
  unfold World.cell?
  simp only
  split at h1
  ·rename_i e1 e2
   rw [e1,e2]
   exact h1.2.2.2 o (fun h=>h)
  ·rename_i e1 e2
   rw [e1,e2]
  ·rw [h1]
 |map b=>
  change b < W.heap.size at hp
  change (match W.heap[b]?,W'.heap[b]? with
   |some (.cells c t fr),some (.cells c' t' fr')=>t'=t/\fr'=fr/\c'.size=c.size/\∀j:Nat,¬False->c'[j]?=c[j]?
   |some (.map es clock),some (.map es' clock')=>False\/(es'=es/\clock'=clock)
   |o,o'=>o'=o) at h1
  show W'.heap[b]?=W.heap[b]?
  split at h1
  ·rename_i e1 e2
   obtain⟨rfl,rfl,hs,hc⟩:=h1
   rw [e1,e2]
   congr 2
   exact Array.ext_getElem? (fun j=>hc j (fun h=>h))
  ·rename_i e1 e2
   obtain⟨rfl,rfl⟩:=h1.elim (fun h=>h.elim) (fun h=>h)
   rw [e1,e2]
  ·exact h1
theorem carry {H:Type} {enc:TypeId×Value->H} {P:Program} {t:TypeId} (hl:laidOutB P=true) (hr:P.readableRec t=true) (hrow:t < P.types.size) {W W':World} {v:Value} {d:DataW H} {ps:List MemPlace} {sp:Nat->Bool}
  (h:DataW.Trod enc P W 0 (fun _=>true) true t v d ps) (hg:RowKit.Grown W W') (hlt:∀x∈ps,x.block < W.heap.size) (hs:∀p∈ps,sp p.block=true):DataW.Trod enc P W' 0 sp true t v d ps:=
 WideElems.Trod_stays hl hr hrow h (fun x hx=>Ls hg (hlt x hx)) hs
section
variable {H:Type} {enc:TypeId×Value->H} {P:Program} {W:World} {L:List TypeId}
theorem Pu (hL:∀t∈L,JP P L t=true) {t:TypeId} (ht:t∈L) (ha:zj (rowOf P t)=true) {r:Reach} {base:Nat} {v:Value} {d:DataW H} {ps:List MemPlace}
  (hval:Value.okWide P W r base t v) (h:DataW.Trod enc P W 0 (fun _=>true) true t v d ps) :
  ∃n ts az,vh P n t ts/\Can (.a ts) (.agg az)/\ck GR (fun b=>b < W.heap.size) W (.agg az) v/\fm ts+1<=Rows.uptoBulk d:=by
 obtain⟨n,hn⟩:=h
 obtain⟨ts,az,ho⟩:=GP hL n t _ _ _ ht hn
 have hv:∃cs,v=.agg cs:=by
  unfold Value.okWide at hval
  unfold rowOf at ha
  split at ha
  case h_5 fs hu=>rw [hu] at hval;obtain⟨cs,h1,_⟩:=hval;exact⟨cs,h1⟩
  case h_6 k e hu=>rw [hu] at hval;obtain⟨cs,h1,_⟩:=hval;exact⟨cs,h1⟩
  case h_4=>split at ha<;>cases ha
  all_goals cases ha
 obtain⟨cs,rfl⟩:=hv
 have hb:=ho.qo
 rw [ha] at hb
 refine⟨n,ts,az,ho.ty,.a _ _ ho.can.1 ho.flat ho.can.2,.agg az cs ?_ (fun j a hj=>JV (ho.flat a (List.mem_of_getElem? hj))) (fun j a w hj hw=>.pure (ho.rel j a w hj ?_)),by simpa using hb⟩
 ·have:=ho.len
  simpa [Value.cells] using this
 ·simpa [Value.cells] using hw
end
end Go.Ax.V

set_option maxRecDepth 100000
namespace Go.Ax.Ft
open Go Go.Ax Go.Ax.V
inductive Ex where
 |mk (k n v:Int) (kids:List Ex)
structure Co where
 op:Int
 l:Ex
 r:Ex
mutual
inductive Sm where
 |mk (kind var chan tag:Int) (e:Ex) (c:Co) (body els:List Sm) (c7:List Ar)
inductive Ar where
 |mk (tag var:Int) (body:List Sm)
end
structure Ch where
 kind:Int
 size:Int
 src:Int
 dst:Int
 tags:Int
 rule:List (List Int)
structure Pr where
 vars:Int
 body:List Sm
structure Pg where
 ay:List Ch
 procs:List Pr
def Fv (k:Int):Int:=if k=1\/k=2 then 0 else if k=3 then 1 else if 4<=k/\k<=8 then 2 else -1
def within (n lo hi:Int):Bool:=decide (lo<=n)&&decide (n<=hi)
mutual
def KB (vars:Int):Ex->Bool
 |.mk k n v ks=>decide (Fv k=ks.length)&&(decide (k=1)||decide (n=0))&&(decide (k=2)||decide (v=0))&&(!decide (k=2)||within v 0 (vars - 1))&&R3 vars ks&&within n 0 2147483647
def R3 (vars:Int):List Ex->Bool
 |[]=>true
 |e::r=>KB vars e&&R3 vars r
end
def R4 (vars:Int) (c:Co):Bool:=within c.op 1 6&&KB vars c.l&&KB vars c.r
def Ld:Ex->Bool
 |.mk k n v ks=>decide (k=0)&&decide (n=0)&&decide (v=0)&&ks.isEmpty
def Rm (c:Co):Bool:=decide (c.op=0)&&Ld c.l&&Ld c.r
def Du (ay:List Ch) (proc:Int) (dst:Bool) (c:Int):Bool:=
 match c with
 |.ofNat c=>match ay[c]? with
  |some x=>decide ((bif dst then x.dst else x.src)=proc)
  |none=>false
 |.negSucc _=>false
def KI (ay:List Ch) (c tag:Int):Bool:=match ay[c.toNat]? with
 |some x=>within tag 0 (x.tags - 1)
 |none=>false
mutual
def Bh (ay:List Ch) (proc vars:Int):Sm->Bool
 |.mk kind var chan tag e c body els c7=>
  if kind=1 then Rm c&&body.isEmpty&&els.isEmpty&&c7.isEmpty&&decide (chan=0)&&decide (tag=0)&&within var 0 (vars - 1)&&KB vars e
  else if kind=2 then Ld e&&c7.isEmpty&&decide (chan=0)&&decide (tag=0)&&decide (var=0)&&R4 vars c&&wo ay proc vars body&&wo ay proc vars els
  else if kind=3 then Ld e&&els.isEmpty&&c7.isEmpty&&decide (chan=0)&&decide (tag=0)&&decide (var=0)&&R4 vars c&&wo ay proc vars body
  else if kind=4 then Rm c&&body.isEmpty&&els.isEmpty&&c7.isEmpty&&decide (var=0)&&Du ay proc false chan&&KI ay chan tag&&KB vars e
  else if kind=5 then Ld e&&Rm c&&body.isEmpty&&els.isEmpty&&decide (var=0)&&decide (tag=0)&&Du ay proc true chan&&Ea ay proc vars chan [] c7&&!c7.isEmpty
  else if kind=6 then Ld e&&body.isEmpty&&els.isEmpty&&c7.isEmpty&&decide (chan=0)&&decide (tag=0)&&decide (var=0)&&R4 vars c
  else if kind=7 then Ld e&&Rm c&&body.isEmpty&&els.isEmpty&&c7.isEmpty&&decide (chan=0)&&decide (tag=0)&&within var 0 (vars - 1)
  else false
def wo (ay:List Ch) (proc vars:Int):List Sm->Bool
 |[]=>true
 |s::r=>Bh ay proc vars s&&wo ay proc vars r
def Ea (ay:List Ch) (proc vars chan:Int) (had:List Int):List Ar->Bool
 |[]=>true
 |.mk tag var body::r=>KI ay chan tag&&!had.contains tag&&within var 0 (vars - 1)&&wo ay proc vars body&&Ea ay proc vars chan (tag::had) r
end
def Nd (len:Int) (k:Int):List Int->Int->Option Int
 |[],top=>some top
 |x::r,top=>if within x (-1) (len - 1) then Nd len k r (if x=-1 then top else max (max top k) x) else none
def Gt (len tags:Int):Int->List (List Int)->Int->Option Int
 |_,[],top=>some top
 |k,row::r,top=>if (row.length:Int)=tags then match Nd len k row top with
  |some top=>Gt len tags (k+1) r top
  |none=>none
  else none
def GH (c:Ch):Bool:=match Gt c.rule.length c.tags 0 c.rule 0 with
 |some top=>c.rule.isEmpty||(decide (top=(c.rule.length:Int) - 1)&&decide ((c.rule.length:Int)<=8))
 |none=>false
def Ny (procs:Int) (c:Ch):Bool:=
 within c.kind 0 2&&within c.size 1 16&&within c.tags 1 4&&within c.src 0 (procs - 1)&&within c.dst 0 (procs - 1)&&!decide (c.src=c.dst)&&GH c
def D_ (ay:List Ch):Int->List Pr->Bool
 |_,[]=>true
 |i,x::r=>within x.vars 0 6&&wo ay i x.vars x.body&&D_ ay (i+1) r
def Jw (p:Pg):Bool:=decide (p.ay.length<=4)&&decide (1<=p.procs.length)&&decide (p.procs.length<=4)&&p.ay.all (Ny p.procs.length)&&D_ p.ay 0 p.procs
structure Ed where
 src:Int
 dst:Int
 kind:Int
 var:Int
 chan:Int
 tag:Int
 e:Ex
 c:Co
structure Gr where
 nodes:Int
 dm:List Ed
 heads:List Int
def lY:Ex:=.mk 0 0 0 []
def oS:Co:=⟨0,lY,lY⟩
def Sb (op:Int):Int:=if op=1 then 2 else if op=2 then 1 else if op=3 then 6 else if op=4 then 5 else if op=5 then 4 else if op=6 then 3 else 0
def BN (c:Co):Co:=⟨Sb c.op,c.l,c.r⟩
def Gr.dj (g:Gr) (e:Ed):Gr:={g with dm:=g.dm++[e]}
def Gr.node (g:Gr):Gr:={g with nodes:=g.nodes+1}
def Gr.head (g:Gr) (a:Int):Gr:={g with heads:=g.heads++[a]}
mutual
def KA:Sm->Int->Int->Gr->Gr
 |.mk kind var chan tag e c body els c7,a,b,g=>
  if kind=1 then g.dj ⟨a,b,1,var,0,0,e,oS⟩
  else if kind=2 then
   let g1:=ym body g.nodes b (g.node.dj ⟨a,g.nodes,2,0,0,0,lY,c⟩)
   ym els g1.nodes b (g1.node.dj ⟨a,g1.nodes,2,0,0,0,lY,BN c⟩)
  else if kind=3 then ym body g.nodes a ((((g.head a).node).dj ⟨a,g.nodes,2,0,0,0,lY,c⟩).dj ⟨a,b,2,0,0,0,lY,BN c⟩)
  else if kind=4 then g.dj ⟨a,b,3,0,chan,tag,e,oS⟩
  else if kind=5 then Hz chan c7 a b g
  else if kind=6 then g.dj ⟨a,b,5,0,0,0,lY,c⟩
  else if kind=7 then g.dj ⟨a,b,6,var,0,0,lY,oS⟩
  else g
def ym:List Sm->Int->Int->Gr->Gr
 |[],a,b,g=>g.dj ⟨a,b,0,0,0,0,lY,oS⟩
 |[s],a,b,g=>KA s a b g
 |s::t::r,a,b,g=>ym (t::r) g.nodes b (KA s a g.nodes g.node)
def Hz (chan:Int):List Ar->Int->Int->Gr->Gr
 |[],_,_,g=>g
 |.mk tag var body::r,a,b,g=>Hz chan r a b (ym body g.nodes b (g.node.dj ⟨a,g.nodes,4,var,chan,tag,lY,oS⟩))
end
abbrev ii (n:Int):TV:=.i .i64 n
mutual
def q8:Ex->TV
 |.mk k n v ks=>.a [ii k,ii n,ii v,.l (o_ ks)]
def o_:List Ex->List TV
 |[]=>[]
 |e::r=>q8 e::o_ r
end
def cE:Ex->List TV
 |.mk k n v ks=>[ii k,ii n,ii v,.l (o_ ks)]
def cC (c:Co):List TV:=ii c.op::(cE c.l++cE c.r)
def LJ (c:Co):TV:=.a (cC c)
mutual
def pz:Sm->TV
 |.mk kind var chan tag e c body els c7=>.a ([ii kind,ii var,ii chan,ii tag]++cE e++cC c++[.l (gq body),.l (gq els),.l (oC c7)])
def gq:List Sm->List TV
 |[]=>[]
 |s::r=>pz s::gq r
def Ec:Ar->TV
 |.mk tag var body=>.a [ii tag,ii var,.l (gq body)]
def oC:List Ar->List TV
 |[]=>[]
 |s::r=>Ec s::oC r
end
def qy (l:List Int):TV:=.l (l.map ii)
def dy (c:Ch):TV:=.a [ii c.kind,ii c.size,ii c.src,ii c.dst,ii c.tags,.l (c.rule.map qy)]
def n8 (p:Pr):TV:=.a [ii p.vars,.l (gq p.body)]
def oZ (p:Pg):TV:=.a [.l (p.ay.map dy),.l (p.procs.map n8)]
def qz (e:Ed):TV:=.a ([ii e.src,ii e.dst,ii e.kind,ii e.var,ii e.chan,ii e.tag]++cE e.e++cC e.c)
def y_ (g:Gr):TV:=.a [ii g.nodes,.l (g.dm.map qz),.l (g.heads.map ii)]
theorem mc:∀l,o_ l=l.map q8
 |[]=>rfl
 |e::r=>by simp [o_,mc r]
theorem lE:∀l,gq l=l.map pz
 |[]=>rfl
 |e::r=>by simp [gq,lE r]
theorem oB:∀l,oC l=l.map Ec
 |[]=>rfl
 |e::r=>by simp [oC,oB r]
theorem Ip (e:Ex):dh 4 (q8 e):=by cases e;rfl
theorem yx (e:Sm):dh 20 (pz e):=by
 cases e with
 |mk kind var chan tag e c body els c7=>cases e;cases c with|mk op l r=>cases l;cases r;rfl
theorem J5 (e:Ch):dh 6 (dy e):=rfl
theorem FJ (e:Ed):dh 19 (qz e):=by
 obtain⟨_,_,_,_,_,_,e,c⟩:=e
 cases e;cases c with|mk op l r=>cases l;cases r;rfl
mutual
def BF:Ex->Nat
 |.mk _ _ _ ks=>1+qf ks
def qf:List Ex->Nat
 |[]=>0
 |e::r=>BF e+qf r
end
def Gy (c:Co):Nat:=BF c.l+BF c.r
mutual
def B7:Sm->Nat
 |.mk _ _ _ _ e c body els c7=>5+BF e+Gy c+gP body+gP els+mw c7
def gP:List Sm->Nat
 |[]=>0
 |s::r=>B7 s+gP r
def OA:Ar->Nat
 |.mk _ _ body=>2+gP body
def mw:List Ar->Nat
 |[]=>0
 |s::r=>OA s+mw r
end
theorem RE (e:Ex):0 < BF e:=by cases e;simp [BF];omega
theorem AM (e:Sm):0 < B7 e:=by cases e;simp [B7];omega
theorem RF (e:Ar):0 < OA e:=by cases e;simp [OA];omega
theorem B8:∀{l:List Ex} {x:Ex},x∈l->BF x<=qf l
 |e::r,x,h=>by
  simp only [qf]
  rcases List.mem_cons.1 h with rfl|h
  ·omega
  ·have:=B8 h;omega
theorem nj:∀{l:List Sm} {x:Sm},x∈l->B7 x<=gP l
 |e::r,x,h=>by
  simp only [gP]
  rcases List.mem_cons.1 h with rfl|h
  ·omega
  ·have:=nj h;omega
theorem zo:∀{l:List Ar} {x:Ar},x∈l->OA x<=mw l
 |e::r,x,h=>by
  simp only [mw]
  rcases List.mem_cons.1 h with rfl|h
  ·omega
  ·have:=zo h;omega
theorem B9:∀(l:List Ex),l.length<=qf l
 |[]=>by simp
 |e::r=>by have:=B9 r;have:=RE e;simp only [qf,List.length_cons];omega
theorem tv:∀(l:List Sm),l.length<=gP l
 |[]=>by simp
 |e::r=>by have:=tv r;have:=AM e;simp only [gP,List.length_cons];omega
theorem B_:∀(l:List Ar),l.length<=mw l
 |[]=>by simp
 |e::r=>by have:=B_ r;have:=RF e;simp only [mw,List.length_cons];omega
theorem a_ {prog:Map bk} {f:Nat} {ts:List TV} {c:TV} (h:VS prog f ts (fun r=>r=c)):VS prog f ts (fun r'=>r'=c/\bz true c):=h.mono fun r hr=>⟨hr,trivial⟩
theorem bg (t:Bool):oe .not (.b t)=some (.b (!t)):=by cases t<;>rfl
theorem S4 (a b:Int):b8 .geq (.i .i64 a) (.i .i64 b)=some (.b (!sw a b)):=rfl
theorem Mz (a b:Int):b8 .leq (.i .i64 a) (.i .i64 b)=some (.b (!sw b a)):=rfl
theorem YO (a b:Int):b8 .neq (.i .i64 a) (.i .i64 b)=some (.b (!mh a b)):=rfl
theorem lS (a b:Int):sw a b=decide (a < b):=z_ a b
theorem cz (a b:Int):mh a b=decide (a=b):=BV a b
theorem Jy (a b:Int):(!decide (a < b))=decide (b<=a):=by
 by_cases h:a < b
 ·have:¬b<=a:=by omega
  simp [h,this]
 ·have:b<=a:=by omega
  simp [h,this]
theorem Nr {t c:Bool}:bf (.b t) (bif t then .b c else qv) (.b false)=some (.b (t&&c)):=by cases t<;>rfl
theorem Nq {t c:Bool}:bf (.b t) (.b true) (bif t then qv else .b c)=some (.b (t||c)):=by cases t<;>rfl
theorem nh {P:TV->Prop} {k:TV->Prop} (hk:k qv):∃w,gV (.b false) true P w/\k w:=bu rfl hk
theorem m_ {P:TV->Prop} {k:TV->Prop} (hk:k qv):∃w,gV (.b true) false P w/\k w:=bu rfl hk
theorem m9 {t:Bool} {k:TV->Prop} (hk:k (.b false)):∃w,bf (.b t) (bif t then .b false else qv) (.b false)=some w/\k w:=by
 cases t with
 |true=>exact⟨_,rfl,hk⟩
 |false=>exact⟨_,rfl,hk⟩
theorem m8 {t:Bool} {k:TV->Prop} (hk:k (.b true)):∃w,bf (.b t) (.b true) (bif t then qv else .b true)=some w/\k w:=by
 cases t with
 |true=>exact⟨_,rfl,hk⟩
 |false=>exact⟨_,rfl,hk⟩
theorem gOB {t c:Bool} {P:TV->Prop} {k:TV->Prop} (v:TV) (hp:t=false->c=true->P v) (hk:k (bif t then qv else bif c then v else qv)):∃w,gV (bif t then qv else .b c) true P w/\k w:=by
 cases t with
 |true=>exact Bk hk
 |false=>exact gB (t:=c) v (hp rfl) hk
theorem gOO {t c:Bool} {P:TV->Prop} {k:TV->Prop} (v:TV) (hp:t=false->c=false->P v) (hk:k (bif t then qv else bif c then qv else v)):∃w,gV (bif t then qv else .b c) false P w/\k w:=by
 cases t with
 |true=>exact Bk hk
 |false=>exact gO (t:=c) v (hp rfl) hk
theorem gBB {t c:Bool} {P:TV->Prop} {k:TV->Prop} (v:TV) (hp:t=true->c=true->P v) (hk:k (bif t then bif c then v else qv else qv)):∃w,gV (bif t then .b c else qv) true P w/\k w:=by
 cases t with
 |false=>exact Bk hk
 |true=>exact gB (t:=c) v (hp rfl) hk
theorem gBO {t c:Bool} {P:TV->Prop} {k:TV->Prop} (v:TV) (hp:t=true->c=false->P v) (hk:k (bif t then bif c then qv else v else qv)):∃w,gV (bif t then .b c else qv) false P w/\k w:=by
 cases t with
 |false=>exact Bk hk
 |true=>exact gO (t:=c) v (hp rfl) hk
theorem bq {a b:Int} (h1:-9223372036854775808<=a - b:=by omega) (h2:a - b < 9223372036854775808:=by omega):b8 .sub (.i .i64 a) (.i .i64 b)=some (.i .i64 (a - b)):=SX h1 h2
theorem br {a b:Int} (h1:-9223372036854775808<=a+b:=by omega) (h2:a+b < 9223372036854775808:=by omega):b8 .add (.i .i64 a) (.i .i64 b)=some (.i .i64 (a+b)):=M3 h1 h2
theorem ve {bytes:Nat} {es xs:List TV} (h1:(es.length+xs.length)*bytes<=most:=by simp only [List.length_singleton,List.length_nil,most];omega) (h2:es.length+xs.length<=most:=by simp only [List.length_singleton,List.length_nil,most];omega):gw bytes es xs=some (es++xs):=x_ h1 h2
theorem ni {t:Bool} {P:TV->Prop} {k:TV->Prop} {v:TV} (hk:k (bif t then v else qv)) (hp:t=true->P v:=by intro h;first|(rewrite [h];(try dsimp only [cond_true,cond_false])<;>first|exact bq|exact br|rfl|exact bg _|exact Nr|exact Nq|exact⟨rfl,rfl⟩)|rfl|exact⟨rfl,rfl⟩):∃w,gV (.b t) true P w/\k w:=gB v hp hk
theorem ng {t:Bool} {P:TV->Prop} {k:TV->Prop} {v:TV} (hk:k (bif t then qv else v)) (hp:t=false->P v:=by intro h;first|(rewrite [h];(try dsimp only [cond_true,cond_false])<;>first|exact bq|exact br|rfl|exact bg _|exact Nr|exact Nq|exact⟨rfl,rfl⟩)|rfl|exact⟨rfl,rfl⟩):∃w,gV (.b t) false P w/\k w:=gO v hp hk
theorem Um {t c:Bool} {P:TV->Prop} {k:TV->Prop} {v:TV} (hk:k (bif t then qv else bif c then v else qv)) (hp:t=false->c=true->P v:=by intro h h';first|(rewrite [h];(try dsimp only [cond_true,cond_false])<;>(try rewrite [h'])<;>(try dsimp only [cond_true,cond_false])<;>first|exact bq|exact br|rfl|exact bg _|exact Nr|exact Nq|exact⟨rfl,rfl⟩)|rfl|exact⟨rfl,rfl⟩):∃w,gV (bif t then qv else .b c) true P w/\k w:=gOB v hp hk
theorem Ul {t c:Bool} {P:TV->Prop} {k:TV->Prop} {v:TV} (hk:k (bif t then qv else bif c then qv else v)) (hp:t=false->c=false->P v:=by intro h h';first|(rewrite [h];(try dsimp only [cond_true,cond_false])<;>(try rewrite [h'])<;>(try dsimp only [cond_true,cond_false])<;>first|exact bq|exact br|rfl|exact bg _|exact Nr|exact Nq|exact⟨rfl,rfl⟩)|rfl|exact⟨rfl,rfl⟩):∃w,gV (bif t then qv else .b c) false P w/\k w:=gOO v hp hk
theorem Uo {t c:Bool} {P:TV->Prop} {k:TV->Prop} {v:TV} (hk:k (bif t then bif c then v else qv else qv)) (hp:t=true->c=true->P v:=by intro h h';first|(rewrite [h];(try dsimp only [cond_true,cond_false])<;>(try rewrite [h'])<;>(try dsimp only [cond_true,cond_false])<;>first|exact bq|exact br|rfl|exact bg _|exact Nr|exact Nq|exact⟨rfl,rfl⟩)|rfl|exact⟨rfl,rfl⟩):∃w,gV (bif t then .b c else qv) true P w/\k w:=gBB v hp hk
theorem Un {t c:Bool} {P:TV->Prop} {k:TV->Prop} {v:TV} (hk:k (bif t then bif c then qv else v else qv)) (hp:t=true->c=false->P v:=by intro h h';first|(rewrite [h];(try dsimp only [cond_true,cond_false])<;>(try rewrite [h'])<;>(try dsimp only [cond_true,cond_false])<;>first|exact bq|exact br|rfl|exact bg _|exact Nr|exact Nq|exact⟨rfl,rfl⟩)|rfl|exact⟨rfl,rfl⟩):∃w,gV (bif t then .b c else qv) false P w/\k w:=gBO v hp hk
theorem ek {i n:Nat} (h:sw (i:Int) (n:Int)=true):i < n:=by rw [z_] at h;simpa using h
theorem gQ {i n:Nat} (hi:i<=n) (h:sw (i:Int) (n:Int)=false):i=n:=by
 rw [z_] at h
 have:¬(i:Int) < n:=by simpa using h
 omega
theorem c_ {i n:Nat} (hi:i < n) (hn:n<=4611686018427387904):b8 .add (ii i) (ii 1)=some (ii ((i+1:Nat):Int)):=by
 have:=M3 (a:=(i:Int)) (b:=1) (by omega) (by omega)
 rw [this];rfl
theorem Fi (vars:Int):∀l,R3 vars l=l.all (KB vars)
 |[]=>rfl
 |e::r=>by simp [R3,Fi vars r]
theorem Fh (ay:List Ch) (proc vars:Int):∀l,wo ay proc vars l=l.all (Bh ay proc vars)
 |[]=>rfl
 |e::r=>by simp [wo,Fh ay proc vars r]
theorem B6 {α:Type} {l:List α} {f:α->Bool} {i:Nat} {x:α} (hx:l[i]?=some x) (h:(l.take i).all f=true) (hf:f x=true):(l.take (i+1)).all f=true:=by
 rw [←l_ hx];simp [h,hf]
theorem Cu {α:Type} {l:List α} {f:α->Bool} {i:Nat} {x:α} (hx:l[i]?=some x) (hf:f x=false):l.all f=false:=by
 rw [List.all_eq_false];exact⟨x,List.mem_of_getElem? hx,by simp [hf]⟩
structure Gb (p:Pg):Prop where
 ay:p.ay.length<=4194304
 procs:p.procs.length<=4194304
 rules:∀c∈p.ay,c.rule.length<=4194304
 rows:∀c∈p.ay,∀r∈c.rule,r.length<=4194304
 body:∀x∈p.procs,gP x.body<=4194304
def lG (x:Pr):Gr:=ym x.body 0 1 ⟨2,[],[]⟩
end Go.Ax.Ft

set_option maxRecDepth 100000
namespace Go.Ax.Ft
open Go Go.Ax Go.Ax.V
def KM (e:Ed):Sm:=
 if e.kind=0 then .mk 7 0 e.chan e.tag e.e e.c [] [] []
 else if e.kind=1 then .mk 1 e.var e.chan e.tag e.e e.c [] [] []
 else if e.kind=3 then .mk 4 e.var e.chan e.tag e.e e.c [] [] []
 else if e.kind=4 then .mk 5 0 e.chan 0 e.e e.c [] [] [.mk e.tag e.var []]
 else if e.kind=6 then .mk 7 e.var e.chan e.tag e.e e.c [] [] []
 else .mk 6 e.var e.chan e.tag e.e e.c [] [] []
structure Dc (ay:List Ch) (proc vars:Int) (e:Ed):Prop where
 kind:0<=e.kind/\e.kind<=6
 var:e.kind=0->e.var=0
 ok:Bh ay proc (if e.kind=0 then max vars 1 else vars) (KM e)=true
def oA (n:Int) (l:List Ed):List Ed:=l.filter (fun e=>decide (e.src=n))
theorem Ba (n:Int) (l m:List Ed):oA n (l++m)=oA n l++oA n m:=List.filter_append ..
theorem s7 {n:Int} {e:Ed} {l:List Ed} (h:e.src=n):oA n (e::l)=e::oA n l:=by simp [oA,h]
theorem yo {n:Int} {e:Ed} {l:List Ed} (h:e.src≠n):oA n (e::l)=oA n l:=by simp [oA,h]
theorem lU {n:Int} {l:List Ed} (h:∀e∈l,e.src≠n):oA n l=[]:=by
 simp only [oA,List.filter_eq_nil_iff,decide_eq_true_eq];exact h
inductive F6:List Ed->Prop where
 |one (e:Ed) (h2:e.kind≠2) (h4:e.kind≠4):F6 [e]
 |two (e f:Ed) (he:e.kind=2) (hf:f.kind=2) (h:f.c=BN e.c):F6 [e,f]
 |c7 (l:List Ed) (chan:Int) (hn:l≠[]) (h:∀e∈l,e.kind=4/\e.chan=chan) (ht:(l.map (·.tag)).Nodup):F6 l
inductive Way (E:List Ed) (a:Int):Int->Prop where
 |here:Way E a a
 |step {m:Int} (e:Ed) (h:Way E a m) (he:e∈E) (hs:e.src=m):Way E a e.dst
theorem Way.sub {E F:List Ed} {a b:Int} (h:Way E a b) (hs:∀e∈E,e∈F):Way F a b:=by
 induction h with
 |here=>exact .here
 |step e _ he hm ih=>exact .step e ih (hs e he) hm
theorem Way.trans {E:List Ed} {a b c:Int} (h:Way E a b) (h':Way E b c):Way E a c:=by
 induction h' with
 |here=>exact h
 |step e _ he hm ih=>exact .step e ih he hm
theorem Way.dj {E:List Ed} {a b:Int} (e:Ed) (he:e∈E) (hs:e.src=a) (hd:e.dst=b):Way E a b:=by
 subst hd;exact .step e .here he hs
structure Pt (ay:List Ch) (proc vars a b:Int) (g g':Gr) (N:List Ed) (H:List Int) (L:List Ed):Prop where
 dm:g'.dm=g.dm++N
 heads:g'.heads=g.heads++H
 le:g.nodes<=g'.nodes
 src:∀e∈N,e.src=a\/(g.nodes<=e.src/\e.src < g'.nodes)
 dst:∀e∈N,e.dst=a\/e.dst=b\/(g.nodes<=e.dst/\e.dst < g'.nodes)
 ok:∀e∈N,Dc ay proc vars e
 at_:oA a N=L
 new:∀n,g.nodes<=n->n < g'.nodes->F6 (oA n N)
 hd:∀h∈H,h=a\/(g.nodes<=h/\h < g'.nodes)
 nd:H.Nodup
 go:∀n,g.nodes<=n->n < g'.nodes->Way N a n
 HW:∃k:Int,∀r:Int->Int,r a+k<=r b->∃r':Int->Int,(∀n,n < g.nodes->r' n=r n)/\∀e∈N,e.src∈H\/r' e.src < r' e.dst
structure HD (ay:List Ch) (proc vars a b:Int) (g g':Gr) (N:List Ed) (H:List Int):Prop extends Pt ay proc vars a b g g' N H (oA a N) where
 leave:F6 (oA a N)
 way:Way N a b
 cnt:g'.nodes - g.nodes+1<=N.length
section
variable {ay:List Ch} {proc vars:Int}
theorem Pt.nil (a b:Int) (g:Gr):Pt ay proc vars a b g g [] [] [] where
 dm:=by simp
 heads:=by simp
 le:=Int.le_refl _
 src e h:=by cases h
 dst e h:=by cases h
 ok e h:=by cases h
 at_:=rfl
 new n h h':=by omega
 hd e h:=by cases h
 nd:=List.nodup_nil
 go n h h':=by omega
 HW:=⟨0,fun r _=>⟨r,fun _ _=>rfl,fun e h=>by cases h⟩⟩
theorem Pt.dj {a b:Int} {g:Gr} {e:Ed} (hs:e.src=a) (hd:e.dst=b) (ho:Dc ay proc vars e):Pt ay proc vars a b g (g.dj e) [e] [] [e] where
 dm:=by simp [Gr.dj]
 heads:=by simp [Gr.dj]
 le:=Int.le_refl _
 src e h:=by simp only [List.mem_singleton] at h;subst h;exact .inl hs
 dst e h:=by simp only [List.mem_singleton] at h;subst h;exact .inr (.inl hd)
 ok e h:=by simp only [List.mem_singleton] at h;subst h;exact ho
 at_:=by rw [s7 hs];rfl
 new n h h':=by simp only [Gr.dj] at h';omega
 hd e h:=by cases h
 nd:=List.nodup_nil
 go n h h':=by simp only [Gr.dj] at h';omega
 HW:=⟨1,fun r h=>⟨r,fun _ _=>rfl,fun e h'=>by
  simp only [List.mem_singleton] at h';subst h';rw [hs,hd];exact .inr (by omega)⟩⟩
theorem Pt.par {a b:Int} {g g1 g2:Gr} {N1 N2:List Ed} {H1 H2:List Int} {L1 L2:List Ed} (ha:a < g.nodes) (hb:b < g.nodes)
  (h1:Pt ay proc vars a b g g1 N1 H1 L1) (h2:Pt ay proc vars a b g1 g2 N2 H2 L2) (hh:a ∉ H1\/a ∉ H2):Pt ay proc vars a b g g2 (N1++N2) (H1++H2) (L1++L2) where
 dm:=by rw [h2.dm,h1.dm,List.append_assoc]
 heads:=by rw [h2.heads,h1.heads,List.append_assoc]
 le:=Int.le_trans h1.le h2.le
 src e h:=by
  have:=h1.le;have:=h2.le
  rcases List.mem_append.1 h with h|h
  ·rcases h1.src e h with h|h
   ·exact .inl h
   ·exact .inr (by omega)
  ·rcases h2.src e h with h|h
   ·exact .inl h
   ·exact .inr (by omega)
 dst e h:=by
  have:=h1.le;have:=h2.le
  rcases List.mem_append.1 h with h|h
  ·rcases h1.dst e h with h|h|h
   ·exact .inl h
   ·exact .inr (.inl h)
   ·exact .inr (.inr (by omega))
  ·rcases h2.dst e h with h|h|h
   ·exact .inl h
   ·exact .inr (.inl h)
   ·exact .inr (.inr (by omega))
 ok e h:=by
  rcases List.mem_append.1 h with h|h
  ·exact h1.ok e h
  ·exact h2.ok e h
 at_:=by rw [Ba,h1.at_,h2.at_]
 new n h h':=by
  have:=h1.le;have:=h2.le
  rw [Ba]
  by_cases hn:n < g1.nodes
  ·rw [lU (l:=N2) (fun e he=>by rcases h2.src e he with h|h<;>omega),List.append_nil]
   exact h1.new n h hn
  ·rw [lU (l:=N1) (fun e he=>by rcases h1.src e he with h|h<;>omega),List.nil_append]
   exact h2.new n (by omega) h'
 hd e h:=by
  have:=h1.le;have:=h2.le
  rcases List.mem_append.1 h with h|h
  ·rcases h1.hd e h with h|h
   ·exact .inl h
   ·exact .inr (by omega)
  ·rcases h2.hd e h with h|h
   ·exact .inl h
   ·exact .inr (by omega)
 nd:=by
  rw [List.nodup_append]
  refine⟨h1.nd,h2.nd,fun x hx y hy hxy=>?_⟩
  subst hxy
  have:=h1.le
  rcases h1.hd x hx with h|h
  ·subst h;exact hh.elim (fun h=>h hx) (fun h=>h hy)
  ·rcases h2.hd x hy with h'|h'<;>omega
 go n h h':=by
  by_cases hn:n < g1.nodes
  ·exact(h1.go n h hn).sub fun e he=>List.mem_append_left _ he
  ·exact(h2.go n (by omega) h').sub fun e he=>List.mem_append_right _ he
 HW:=by
  obtain⟨k1,hk1⟩:=h1.HW
  obtain⟨k2,hk2⟩:=h2.HW
  refine⟨max k1 k2,fun r hr=>?_⟩
  obtain⟨r1,e1,f1⟩:=hk1 r (by omega)
  have hle:=h1.le
  obtain⟨r2,e2,f2⟩:=hk2 r1 (by rw [e1 a ha,e1 b hb];omega)
  refine⟨r2,fun n hn=>by rw [e2 n (by omega),e1 n hn],fun e he=>?_⟩
  rcases List.mem_append.1 he with h|h
  ·have hsl:e.src < g1.nodes:=by rcases h1.src e h with h|h<;>omega
   have hdl:e.dst < g1.nodes:=by rcases h1.dst e h with h|h|h<;>omega
   rw [e2 _ hsl,e2 _ hdl]
   exact(f1 e h).imp (fun h=>List.mem_append_left _ h) id
  ·exact(f2 e h).imp (fun h=>List.mem_append_right _ h) id
theorem F6.ne {l:List Ed} (h:F6 l):l≠[]:=by
 cases h with
 |one=>simp
 |two=>simp
 |c7 _ _ hn=>exact hn
theorem Pt.branch {a b:Int} {g g2:Gr} {e:Ed} {N:List Ed} {H:List Int} (ha:a < g.nodes) (hb:b < g.nodes) (hs:e.src=a) (hd:e.dst=g.nodes) (ho:Dc ay proc vars e)
  (h:HD ay proc vars g.nodes b (g.node.dj e) g2 N H):Pt ay proc vars a b g g2 (e::N) H [e]/\a ∉ H/\Way (e::N) a b/\g2.nodes - g.nodes+1<=(e::N).length:=by
 have hn:(g.node.dj e).nodes=g.nodes+1:=rfl
 have hle:=h.le
 rw [hn] at hle
 have hgo:Way (e::N) a g.nodes:=.dj e (List.mem_cons_self ..) hs hd
 refine⟨?_,?_,?_,?_⟩
 ·refine⟨?_,?_,by omega,?_,?_,?_,?_,?_,?_,h.nd,?_,?_⟩
  ·rw [h.dm];simp [Gr.dj,Gr.node]
  ·rw [h.heads];simp [Gr.dj,Gr.node]
  ·intro f hf
   rcases List.mem_cons.1 hf with rfl|hf
   ·exact .inl hs
   ·rcases h.src f hf with h|h<;>exact .inr (by omega)
  ·intro f hf
   rcases List.mem_cons.1 hf with rfl|hf
   ·exact .inr (.inr (by omega))
   ·rcases h.dst f hf with h|h|h
    ·exact .inr (.inr (by omega))
    ·exact .inr (.inl h)
    ·exact .inr (.inr (by omega))
  ·intro f hf
   rcases List.mem_cons.1 hf with rfl|hf
   ·exact ho
   ·exact h.ok f hf
  ·rw [s7 hs,lU (fun f hf=>by rcases h.src f hf with h|h<;>omega)]
  ·intro n h1 h2
   rw [yo (by omega)]
   by_cases hx:n=g.nodes
   ·subst hx;exact h.leave
   ·exact h.new n (by omega) h2
  ·intro x hx
   rcases h.hd x hx with h|h<;>exact .inr (by omega)
  ·intro n h1 h2
   by_cases hx:n=g.nodes
   ·subst hx;exact hgo
   ·exact hgo.trans ((h.go n (by omega) h2).sub fun f hf=>List.mem_cons_of_mem _ hf)
  ·obtain⟨k,hk⟩:=h.HW
   refine⟨1+k,fun r hr=>?_⟩
   obtain⟨r',h1,h2⟩:=hk (fun n=>if n=g.nodes then r b - k else r n) (by
    simp only [if_true];rw [if_neg (by omega:¬b=g.nodes)];omega)
   refine⟨r',fun n hn=>by rw [h1 n (by omega),if_neg (by omega)],fun f hf=>?_⟩
   rcases List.mem_cons.1 hf with rfl|hf
   ·right
    rw [hs,hd,h1 a (by omega),h1 g.nodes (by omega),if_neg (by omega),if_pos rfl]
    omega
   ·exact h2 f hf
 ·intro hx
  rcases h.hd a hx with h|h<;>omega
 ·exact hgo.trans (h.way.sub fun f hf=>List.mem_cons_of_mem _ hf)
 ·have:=h.cnt
  rw [hn] at this
  rw [List.length_cons];push_cast;omega
theorem HD.one {a b:Int} {g:Gr} {e:Ed} (hs:e.src=a) (hd:e.dst=b) (h2:e.kind≠2) (h4:e.kind≠4) (ho:Dc ay proc vars e):HD ay proc vars a b g (g.dj e) [e] []:=by
 have p:Pt ay proc vars a b g (g.dj e) [e] [] [e]:=Pt.dj hs hd ho
 refine⟨p.at_.symm▸p,?_,.dj e (List.mem_cons_self ..) hs hd,?_⟩
 ·rw [p.at_];exact .one e h2 h4
 ·simp only [Gr.dj,List.length_singleton];omega
theorem HD.seq {a b:Int} {g g1 g2:Gr} {N1 N2:List Ed} {H1 H2:List Int} (ha:a < g.nodes) (hb:b < g.nodes)
  (h1:HD ay proc vars a g.nodes g.node g1 N1 H1) (h2:HD ay proc vars g.nodes b g1 g2 N2 H2):HD ay proc vars a b g g2 (N1++N2) (H1++H2):=by
 have hn:g.node.nodes=g.nodes+1:=rfl
 have l1:=h1.le
 have l2:=h2.le
 rw [hn] at l1
 have w1:∀{x},Way N1 a x->Way (N1++N2) a x:=fun h=>h.sub fun e he=>List.mem_append_left _ he
 have w2:∀{x},Way N2 g.nodes x->Way (N1++N2) a x:=fun h=>(w1 h1.way).trans (h.sub fun e he=>List.mem_append_right _ he)
 have hA:oA a (N1++N2)=oA a N1:=by
  rw [Ba,lU (l:=N2) (fun e he=>by rcases h2.src e he with h|h<;>omega),List.append_nil]
 refine⟨⟨?_,?_,by omega,?_,?_,?_,rfl,?_,?_,?_,?_,?_⟩,by rw [hA];exact h1.leave,w2 h2.way,?_⟩
 ·rw [h2.dm,h1.dm,List.append_assoc];rfl
 ·rw [h2.heads,h1.heads,List.append_assoc];rfl
 ·intro e he
  rcases List.mem_append.1 he with he|he
  ·rcases h1.src e he with h|h
   ·exact .inl h
   ·exact .inr (by omega)
  ·rcases h2.src e he with h|h<;>exact .inr (by omega)
 ·intro e he
  rcases List.mem_append.1 he with he|he
  ·rcases h1.dst e he with h|h|h
   ·exact .inl h
   ·exact .inr (.inr (by omega))
   ·exact .inr (.inr (by omega))
  ·rcases h2.dst e he with h|h|h
   ·exact .inr (.inr (by omega))
   ·exact .inr (.inl h)
   ·exact .inr (.inr (by omega))
 ·intro e he
  rcases List.mem_append.1 he with he|he
  ·exact h1.ok e he
  ·exact h2.ok e he
 ·intro n x y
  rw [Ba]
  by_cases h:n < g1.nodes
  ·by_cases hx:n=g.nodes
   ·subst hx
    rw [lU (l:=N1) (fun e he=>by rcases h1.src e he with h|h<;>omega),List.nil_append]
    exact h2.leave
   ·rw [lU (l:=N2) (fun e he=>by rcases h2.src e he with h|h<;>omega),List.append_nil]
    exact h1.new n (by omega) h
  ·rw [lU (l:=N1) (fun e he=>by rcases h1.src e he with h|h<;>omega),List.nil_append]
   exact h2.new n (by omega) y
 ·intro x hx
  rcases List.mem_append.1 hx with hx|hx
  ·rcases h1.hd x hx with h|h
   ·exact .inl h
   ·exact .inr (by omega)
  ·rcases h2.hd x hx with h|h<;>exact .inr (by omega)
 ·rw [List.nodup_append]
  refine⟨h1.nd,h2.nd,fun x hx y hy hxy=>?_⟩
  subst hxy
  rcases h1.hd x hx with h|h<;>rcases h2.hd x hy with h'|h'<;>omega
 ·intro n x y
  by_cases h:n < g1.nodes
  ·by_cases hx:n=g.nodes
   ·subst hx;exact w1 h1.way
   ·exact w1 (h1.go n (by omega) h)
  ·exact w2 (h2.go n (by omega) y)
 ·obtain⟨k1,hk1⟩:=h1.HW
  obtain⟨k2,hk2⟩:=h2.HW
  refine⟨k1+k2,fun r hr=>?_⟩
  obtain⟨r1,e1,f1⟩:=hk1 (fun n=>if n=g.nodes then r a+k1 else r n) (by
   simp only [if_true];rw [if_neg (by omega:¬a=g.nodes)];omega)
  have ea:r1 g.nodes=r a+k1:=by rw [e1 _ (by omega),if_pos rfl]
  have eb:r1 b=r b:=by rw [e1 _ (by omega),if_neg (by omega)]
  obtain⟨r2,e2,f2⟩:=hk2 r1 (by rw [ea,eb];omega)
  refine⟨r2,fun n hn=>by rw [e2 n (by omega),e1 n (by omega),if_neg (by omega)],fun e he=>?_⟩
  rcases List.mem_append.1 he with h|h
  ·have hsl:e.src < g1.nodes:=by rcases h1.src e h with h|h<;>omega
   have hdl:e.dst < g1.nodes:=by rcases h1.dst e h with h|h|h<;>omega
   rw [e2 _ hsl,e2 _ hdl]
   exact(f1 e h).imp (fun h=>List.mem_append_left _ h) id
  ·exact(f2 e h).imp (fun h=>List.mem_append_right _ h) id
 ·have c1:=h1.cnt
  have c2:=h2.cnt
  rw [hn] at c1
  rw [List.length_append];push_cast;omega
theorem HD.loop {a b:Int} {g g2:Gr} {e f:Ed} {N:List Ed} {H:List Int} (ha:a < g.nodes) (hb:b < g.nodes) (hs:e.src=a) (hd:e.dst=g.nodes) (fs:f.src=a) (fd:f.dst=b)
  (ke:e.kind=2) (kf:f.kind=2) (hc:f.c=BN e.c) (ho:Dc ay proc vars e) (fo:Dc ay proc vars f)
  (h:HD ay proc vars g.nodes a ((((g.head a).node).dj e).dj f) g2 N H):HD ay proc vars a b g g2 (e::f::N) (a::H):=by
 have hn:((((g.head a).node).dj e).dj f).nodes=g.nodes+1:=rfl
 have hle:=h.le
 rw [hn] at hle
 have hgo:Way (e::f::N) a g.nodes:=.dj e (List.mem_cons_self ..) hs hd
 have hA:oA a (e::f::N)=[e,f]:=by
  rw [s7 hs,s7 fs,lU (fun f hf=>by rcases h.src f hf with h|h<;>omega)]
 refine⟨⟨?_,?_,by omega,?_,?_,?_,rfl,?_,?_,?_,?_,?_⟩,by rw [hA];exact .two e f ke kf hc,.dj f (by simp) fs fd,?_⟩
 ·rw [h.dm];simp [Gr.dj,Gr.node,Gr.head]
 ·rw [h.heads];simp [Gr.dj,Gr.node,Gr.head]
 ·intro x hx
  rcases List.mem_cons.1 hx with rfl|hx
  ·exact .inl hs
  rcases List.mem_cons.1 hx with rfl|hx
  ·exact .inl fs
  ·rcases h.src x hx with h|h<;>exact .inr (by omega)
 ·intro x hx
  rcases List.mem_cons.1 hx with rfl|hx
  ·exact .inr (.inr (by omega))
  rcases List.mem_cons.1 hx with rfl|hx
  ·exact .inr (.inl fd)
  ·rcases h.dst x hx with h|h|h
   ·exact .inr (.inr (by omega))
   ·exact .inl h
   ·exact .inr (.inr (by omega))
 ·intro x hx
  rcases List.mem_cons.1 hx with rfl|hx
  ·exact ho
  rcases List.mem_cons.1 hx with rfl|hx
  ·exact fo
  ·exact h.ok x hx
 ·intro n h1 h2
  rw [yo (by omega),yo (by omega)]
  by_cases hx:n=g.nodes
  ·subst hx;exact h.leave
  ·exact h.new n (by omega) h2
 ·intro x hx
  rcases List.mem_cons.1 hx with rfl|hx
  ·exact .inl rfl
  ·rcases h.hd x hx with h|h<;>exact .inr (by omega)
 ·rw [List.nodup_cons]
  refine⟨fun hx=>?_,h.nd⟩
  rcases h.hd a hx with h|h<;>omega
 ·intro n h1 h2
  by_cases hx:n=g.nodes
  ·subst hx;exact hgo
  ·exact hgo.trans ((h.go n (by omega) h2).sub fun f hf=>by simp [hf])
 ·obtain⟨k,hk⟩:=h.HW
  refine⟨0,fun r hr=>?_⟩
  obtain⟨r',h1,h2⟩:=hk (fun n=>if n=g.nodes then r a - k else r n) (by
   simp only [if_true];rw [if_neg (by omega:¬a=g.nodes)];omega)
  refine⟨r',fun n hn=>by rw [h1 n (by omega),if_neg (by omega)],fun x hx=>?_⟩
  rcases List.mem_cons.1 hx with rfl|hx
  ·left;rw [hs];simp
  rcases List.mem_cons.1 hx with rfl|hx
  ·left;rw [fs];simp
  ·exact(h2 x hx).imp (fun h=>List.mem_cons_of_mem _ h) id
 ·have:=h.cnt
  rw [hn] at this
  simp only [List.length_cons];push_cast;omega
theorem ed1 {var:Int} {e:Ex} {a b:Int} (h1:within var 0 (vars - 1)=true) (h2:KB vars e=true):Dc ay proc vars ⟨a,b,1,var,0,0,e,oS⟩:=by
 refine⟨by simp,by simp,?_⟩
 show Bh ay proc vars (.mk 1 var 0 0 e oS [] [] [])=true
 rw [Bh]
 simp [h1,h2,Rm,oS,Ld,lY]
theorem ed3 {chan tag:Int} {e:Ex} {a b:Int} (h1:Du ay proc false chan=true) (h2:KI ay chan tag=true) (h3:KB vars e=true):Dc ay proc vars ⟨a,b,3,0,chan,tag,e,oS⟩:=by
 refine⟨by simp,by simp,?_⟩
 show Bh ay proc vars (.mk 4 0 chan tag e oS [] [] [])=true
 rw [Bh]
 simp [h1,h2,h3,Rm,oS,Ld,lY]
theorem ed5 {c:Co} {a b:Int} (h:R4 vars c=true):Dc ay proc vars ⟨a,b,5,0,0,0,lY,c⟩:=by
 refine⟨by simp,by simp,?_⟩
 show Bh ay proc vars (.mk 6 0 0 0 lY c [] [] [])=true
 rw [Bh]
 simp [h,Ld,lY]
theorem Z8 {c:Co} {a b:Int} (h:R4 vars c=true):Dc ay proc vars ⟨a,b,2,0,0,0,lY,c⟩:=by
 refine⟨by simp,by simp,?_⟩
 show Bh ay proc vars (.mk 6 0 0 0 lY c [] [] [])=true
 rw [Bh]
 simp [h,Ld,lY]
theorem ed6 {var:Int} {a b:Int} (h:within var 0 (vars - 1)=true):Dc ay proc vars ⟨a,b,6,var,0,0,lY,oS⟩:=by
 refine⟨by simp,by simp,?_⟩
 show Bh ay proc vars (.mk 7 var 0 0 lY oS [] [] [])=true
 rw [Bh]
 simp [h,Ld,lY,Rm,oS]
theorem ed0 {a b:Int}:Dc ay proc vars ⟨a,b,0,0,0,0,lY,oS⟩:=by
 refine⟨by simp,by simp,?_⟩
 show Bh ay proc (max vars 1) (.mk 7 0 0 0 lY oS [] [] [])=true
 rw [Bh]
 simp [Ld,lY,Rm,oS,within]
 omega
theorem ed4 {chan tag var:Int} {a b:Int} (h1:Du ay proc true chan=true) (h2:KI ay chan tag=true) (h3:within var 0 (vars - 1)=true):Dc ay proc vars ⟨a,b,4,var,chan,tag,lY,oS⟩:=by
 refine⟨by simp,by simp,?_⟩
 show Bh ay proc vars (.mk 5 0 chan 0 lY oS [] [] [.mk tag var []])=true
 rw [Bh]
 simp [h1,h2,h3,Ld,lY,Rm,oS,Ea,wo]
theorem Ms {c:Co} (h:R4 vars c=true):R4 vars (BN c)=true:=by
 obtain⟨op,l,r⟩:=c
 simp only [R4,BN,within,Bool.and_eq_true,decide_eq_true_eq] at h ⊢
 obtain⟨⟨⟨h1,h2⟩,h3⟩,h4⟩:=h
 refine⟨⟨?_,h3⟩,h4⟩
 have:op=1\/op=2\/op=3\/op=4\/op=5\/op=6:=by omega
 rcases this with rfl|rfl|rfl|rfl|rfl|rfl<;>simp [Sb]
theorem GQ:∀(l:List Ar) (chan:Int) (had:List Int),Ea ay proc vars chan had l=true->(∀x∈l.map (fun x=>match x with|.mk tag _ _=>tag),x ∉ had)/\(l.map (fun x=>match x with|.mk tag _ _=>tag)).Nodup
 |[],chan,had,_=>⟨fun x h=>(by cases h),List.nodup_nil⟩
 |.mk tag var body::r,chan,had,h=>by
  simp only [Ea,Bool.and_eq_true,Bool.not_eq_true',List.contains_eq_mem,decide_eq_false_iff_not] at h
  obtain⟨i1,i2⟩:=GQ r chan (tag::had) h.2
  simp only [List.map_cons,List.nodup_cons]
  refine⟨fun x hx=>?_,fun hx=>i1 _ hx (List.mem_cons_self ..),i2⟩
  rcases List.mem_cons.1 hx with rfl|hx
  ·exact h.1.1.1.2
  ·exact fun hh=>i1 x hx (List.mem_cons_of_mem _ hh)
theorem td (g:Gr) (e:Ed):(g.node.dj e).nodes=g.nodes+1:=rfl
mutual
theorem Md:∀(s:Sm) (a b:Int) (g:Gr),Bh ay proc vars s=true->a < g.nodes->b < g.nodes->∃N H,HD ay proc vars a b g (KA s a b g) N H
 |.mk kind var chan tag e c body els c7,a,b,g,ho,ha,hb=>by
  rw [KA];rw [Bh] at ho
  by_cases k1:kind=1
  ·rw [if_pos k1] at ho ⊢
   simp only [Bool.and_eq_true] at ho
   exact⟨_,_,HD.one rfl rfl (by simp) (by simp) (ed1 ho.1.2 ho.2)⟩
  rw [if_neg k1] at ho ⊢
  by_cases k2:kind=2
  ·rw [if_pos k2] at ho ⊢
   simp only [Bool.and_eq_true] at ho
   obtain⟨⟨⟨_,hc⟩,hbd⟩,hel⟩:=ho
   obtain⟨N1,H1,l1⟩:=A4 body g.nodes b (g.node.dj ⟨a,g.nodes,2,0,0,0,lY,c⟩) hbd (by rw [td];omega) (by rw [td];omega)
   obtain⟨p1,n1,w1,c1⟩:=Pt.branch ha hb rfl rfl (Z8 hc) l1
   have hle:=p1.le
   obtain⟨N2,H2,l2⟩:=A4 els (ym body g.nodes b (g.node.dj ⟨a,g.nodes,2,0,0,0,lY,c⟩)).nodes b ((ym body g.nodes b (g.node.dj ⟨a,g.nodes,2,0,0,0,lY,c⟩)).node.dj ⟨a,(ym body g.nodes b (g.node.dj ⟨a,g.nodes,2,0,0,0,lY,c⟩)).nodes,2,0,0,0,lY,BN c⟩) hel (by rw [td];omega) (by rw [td];omega)
   obtain⟨p2,n2,w2,c2⟩:=Pt.branch (a:=a) (b:=b) (by omega) (by omega) rfl rfl (Z8 (Ms hc)) l2
   have p:=Pt.par ha hb p1 p2 (.inl n1)
   refine⟨_,_,⟨p.at_.symm▸p,?_,w1.sub fun e he=>List.mem_append_left _ he,?_⟩⟩
   ·rw [p.at_];exact .two _ _ rfl rfl rfl
   ·rw [List.length_append];push_cast;omega
  rw [if_neg k2] at ho ⊢
  by_cases k3:kind=3
  ·rw [if_pos k3] at ho ⊢
   simp only [Bool.and_eq_true] at ho
   obtain⟨⟨_,hc⟩,hbd⟩:=ho
   obtain⟨N1,H1,l1⟩:=A4 body g.nodes a ((((g.head a).node).dj ⟨a,g.nodes,2,0,0,0,lY,c⟩).dj ⟨a,b,2,0,0,0,lY,BN c⟩) hbd (by show g.nodes < g.nodes+1;omega) (by show a < g.nodes+1;omega)
   exact⟨_,_,HD.loop ha hb rfl rfl rfl rfl rfl rfl rfl (Z8 hc) (Z8 (Ms hc)) l1⟩
  rw [if_neg k3] at ho ⊢
  by_cases k4:kind=4
  ·rw [if_pos k4] at ho ⊢
   simp only [Bool.and_eq_true] at ho
   exact⟨_,_,HD.one rfl rfl (by simp) (by simp) (ed3 ho.1.1.2 ho.1.2 ho.2)⟩
  rw [if_neg k4] at ho ⊢
  by_cases k5:kind=5
  ·rw [if_pos k5] at ho ⊢
   simp only [Bool.and_eq_true,Bool.not_eq_true',List.isEmpty_eq_false_iff] at ho
   obtain⟨⟨⟨_,hend⟩,har⟩,hne⟩:=ho
   obtain⟨N,H,L,p,na,hL,ht,hw,hc⟩:=M0 chan c7 a b g [] hend har ha hb
   have hlen:1<=c7.length:=by cases c7 with|nil=>exact absurd rfl hne|cons=>simp
   refine⟨N,H,⟨p.at_.symm▸p,?_,hw hne,by omega⟩⟩
   rw [p.at_]
   refine .c7 L chan (fun h=>?_) hL (by rw [ht];exact(GQ c7 chan [] har).2)
   subst h
   cases c7 with
   |nil=>exact hne rfl
   |cons=>simp at ht
  rw [if_neg k5] at ho ⊢
  by_cases k6:kind=6
  ·rw [if_pos k6] at ho ⊢
   simp only [Bool.and_eq_true] at ho
   exact⟨_,_,HD.one rfl rfl (by simp) (by simp) (ed5 ho.2)⟩
  rw [if_neg k6] at ho ⊢
  by_cases k7:kind=7
  ·rw [if_pos k7] at ho ⊢
   simp only [Bool.and_eq_true] at ho
   exact⟨_,_,HD.one rfl rfl (by simp) (by simp) (ed6 ho.2)⟩
  rw [if_neg k7] at ho
  cases ho
theorem A4:∀(l:List Sm) (a b:Int) (g:Gr),wo ay proc vars l=true->a < g.nodes->b < g.nodes->∃N H,HD ay proc vars a b g (ym l a b g) N H
 |[],a,b,g,ho,ha,hb=>by
  rw [ym]
  exact⟨_,_,HD.one rfl rfl (by simp) (by simp) ed0⟩
 |[s],a,b,g,ho,ha,hb=>by
  rw [ym]
  simp only [wo,Bool.and_true] at ho
  exact Md s a b g ho ha hb
 |s::t::r,a,b,g,ho,ha,hb=>by
  rw [ym]
  rw [wo,Bool.and_eq_true] at ho
  obtain⟨N1,H1,l1⟩:=Md s a g.nodes g.node ho.1 (by show a < g.nodes+1;omega) (by show g.nodes < g.nodes+1;omega)
  have hle:=l1.le
  have hn:g.node.nodes=g.nodes+1:=rfl
  obtain⟨N2,H2,l2⟩:=A4 (t::r) g.nodes b (KA s a g.nodes g.node) ho.2 (by omega) (by omega)
  exact⟨_,_,HD.seq ha hb l1 l2⟩
theorem M0:∀(chan:Int) (l:List Ar) (a b:Int) (g:Gr) (had:List Int),Du ay proc true chan=true->Ea ay proc vars chan had l=true->a < g.nodes->b < g.nodes->
  ∃N H L,Pt ay proc vars a b g (Hz chan l a b g) N H L/\a ∉ H/\(∀e∈L,e.kind=4/\e.chan=chan)/\L.map (·.tag)=l.map (fun x=>match x with|.mk tag _ _=>tag)/\(l≠[]->Way N a b)/\
   (Hz chan l a b g).nodes - g.nodes+l.length<=N.length
 |chan,[],a,b,g,had,hend,ho,ha,hb=>by
  rw [Hz]
  exact⟨[],[],[],Pt.nil a b g,by simp,by simp,rfl,fun h=>absurd rfl h,by simp⟩
 |chan,.mk tag var body::r,a,b,g,had,hend,ho,ha,hb=>by
  rw [Hz]
  simp only [Ea,Bool.and_eq_true] at ho
  obtain⟨⟨⟨⟨htag,_⟩,hvar⟩,hbd⟩,hr⟩:=ho
  obtain⟨N1,H1,l1⟩:=A4 body g.nodes b (g.node.dj ⟨a,g.nodes,4,var,chan,tag,lY,oS⟩) hbd (by rw [td];omega) (by rw [td];omega)
  obtain⟨p1,n1,w1,c1⟩:=Pt.branch ha hb rfl rfl (ed4 hend htag hvar) l1
  have hle:=p1.le
  obtain⟨N2,H2,L2,p2,n2,hL,ht,hw,hc⟩:=M0 chan r a b (ym body g.nodes b (g.node.dj ⟨a,g.nodes,4,var,chan,tag,lY,oS⟩)) (tag::had) hend hr (by omega) (by omega)
  refine⟨_,_,_,Pt.par ha hb p1 p2 (.inl n1),?_,?_,?_,fun _=>w1.sub fun e he=>List.mem_append_left _ he,?_⟩
  ·intro h;rcases List.mem_append.1 h with h|h
   ·exact n1 h
   ·exact n2 h
  ·intro e he
   rcases List.mem_append.1 he with h|h
   ·simp only [List.mem_singleton] at h;subst h;exact⟨rfl,rfl⟩
   ·exact hL e h
  ·simp only [List.map_append,List.map_cons,List.map_nil,ht,List.singleton_append]
  ·rw [List.length_append,List.length_cons];push_cast;omega
end
end
end Go.Ax.Ft

set_option maxRecDepth 100000
namespace Go.Ax.Ft
open Go Go.Ax Go.Ax.V
def jc (s:List Bool) (n:Int):Bool:=s[n.toNat]?.getD false
def lP (s:List Bool) (e:Ed):List Bool:=if jc s e.src then s.set e.dst.toNat true else s
def t_ (E:List Ed) (s:List Bool):List Bool:=E.foldl lP s
def gL (E:List Ed):Nat->List Bool->List Bool
 |0,s=>s
 |n+1,s=>t_ E (gL E n s)
def xu (s:List Bool):Nat:=s.count true
theorem GB (s:List Bool) (e:Ed):(lP s e).length=s.length:=by unfold lP;split<;>simp
theorem BJ:∀(E:List Ed) (s:List Bool),(t_ E s).length=s.length
 |[],s=>rfl
 |e::E,s=>by rw [t_,List.foldl_cons];exact(BJ E _).trans (GB s e)
theorem qu (E:List Ed) (s:List Bool):∀n,(gL E n s).length=s.length
 |0=>rfl
 |n+1=>by rw [gL,BJ,qu E s n]
theorem OM {s:List Bool} {i:Nat} {n:Int} (h:jc s n=true):jc (s.set i true) n=true:=by
 unfold jc at h ⊢
 rw [List.getElem?_set]
 split
 ·split
  ·rfl
  ·rename_i h1 h2
   rw [List.getElem?_eq_none (by omega)] at h;cases h
 ·exact h
theorem EL {s:List Bool} {e:Ed} {n:Int} (h:jc s n=true):jc (lP s e) n=true:=by
 unfold lP;split
 ·exact OM h
 ·exact h
theorem DL:∀{E:List Ed} {s:List Bool} {n:Int},jc s n=true->jc (t_ E s) n=true
 |[],s,n,h=>h
 |e::E,s,n,h=>by rw [t_,List.foldl_cons];exact DL (E:=E) (EL h)
theorem MW:∀(s:List Bool) (i:Nat),xu s<=xu (s.set i true)
 |[],i=>Nat.le_refl _
 |b::s,0=>by cases b<;>simp [xu]
 |b::s,i+1=>by
  have:=MW s i
  unfold xu at this ⊢
  simp only [List.set_cons_succ,List.count_cons];omega
theorem Kg:∀(s:List Bool) (i:Nat),s[i]?=some false->xu s+1<=xu (s.set i true)
 |b::s,0,h=>by simp at h;subst h;simp [xu]
 |b::s,i+1,h=>by
  have:=Kg s i (by simpa using h)
  unfold xu at this ⊢
  simp only [List.set_cons_succ,List.count_cons];omega
theorem Kf (s:List Bool) (e:Ed):xu s<=xu (lP s e):=by
 unfold lP;split
 ·exact MW _ _
 ·exact Nat.le_refl _
theorem Hu:∀(E:List Ed) (s:List Bool),xu s<=xu (t_ E s)
 |[],s=>Nat.le_refl _
 |e::E,s=>by rw [t_,List.foldl_cons];exact Nat.le_trans (Kf s e) (Hu E _)
theorem PD {s:List Bool} {n:Int} (h:jc s n=false) (hn:n.toNat < s.length):s[n.toNat]?=some false:=by
 unfold jc at h
 rw [List.getElem?_eq_getElem hn] at h ⊢
 simpa using h
theorem Kh:∀(E:List Ed) (s:List Bool) (e:Ed),e∈E->jc s e.src=true->jc s e.dst=false->e.dst.toNat < s.length->xu s+1<=xu (t_ E s)
 |f::E,s,e,he,h1,h2,hl=>by
  rw [t_,List.foldl_cons]
  by_cases hd:jc (lP s f) e.dst=true
  ·have h3:xu s+1<=xu (lP s f):=by
    unfold lP at hd ⊢
    split at hd
    ·rename_i hs
     rw [if_pos hs]
     refine Kg s _ ?_
     by_cases heq:f.dst.toNat=e.dst.toNat
     ·rw [heq];exact PD h2 hl
     ·exfalso
      unfold jc at hd h2
      rw [List.getElem?_set_ne heq] at hd
      rw [h2] at hd;cases hd
    ·rw [h2] at hd;cases hd
   exact Nat.le_trans h3 (Hu E _)
  ·rcases List.mem_cons.1 he with rfl|he
   ·exfalso
    apply hd
    unfold lP
    rw [if_pos h1]
    unfold jc
    rw [List.getElem?_set_self hl];rfl
   ·have:=Kh E (lP s f) e he (EL h1) (by simpa using hd) (by rw [GB];exact hl)
    have h3:=Kf s f
    exact Nat.le_trans (by omega) this
def CQ (E:List Ed) (s:List Bool):Prop:=∀e∈E,jc s e.src=true->jc s e.dst=true
theorem HL {s:List Bool} {e:Ed} (h:jc s e.src=true->jc s e.dst=true) (hl:e.dst.toNat < s.length):lP s e=s:=by
 unfold lP
 split
 ·rename_i hs
  have:=h hs
  unfold jc at this
  rw [List.getElem?_eq_getElem hl] at this
  apply List.ext_getElem?
  intro i
  rw [List.getElem?_set]
  split
  ·rename_i hi;subst hi
   (try rw [if_pos hl]);rw [List.getElem?_eq_getElem hl]
   have h2:s[e.dst.toNat]=true:=this
   rw [h2]
  ·rfl
 ·rfl
theorem Bs:∀{E:List Ed} {s:List Bool},CQ E s->(∀e∈E,e.dst.toNat < s.length)->t_ E s=s
 |[],s,h,hl=>rfl
 |e::E,s,h,hl=>by
  rw [t_,List.foldl_cons,HL (h e (List.mem_cons_self ..)) (hl e (List.mem_cons_self ..))]
  exact Bs (fun f hf=>h f (List.mem_cons_of_mem _ hf)) (fun f hf=>hl f (List.mem_cons_of_mem _ hf))
theorem DK (E:List Ed) (s:List Bool) (hl:∀e∈E,e.dst.toNat < s.length):∀n,CQ E (gL E n s)\/xu s+n<=xu (gL E n s)
 |0=>.inr (Nat.le_refl _)
 |n+1=>by
  have hl':∀e∈E,e.dst.toNat < (gL E n s).length:=fun e he=>by rw [qu];exact hl e he
  by_cases hc:CQ E (gL E n s)
  ·left;rw [gL,Bs hc hl'];exact hc
  ·rcases DK E s hl n with h|h
   ·exact absurd h hc
   ·right
    unfold CQ at hc
    simp only [Classical.not_forall] at hc
    obtain⟨e,he,h1,h2⟩:=hc
    have:=Kh E _ e he h1 (by simpa using h2) (hl' e he)
    rw [gL];omega
theorem DJ (E:List Ed) {s:List Bool} {i:Int} (h:jc s i=true):∀n,jc (gL E n s) i=true
 |0=>h
 |n+1=>DL (DJ E h n)
theorem KV {E:List Ed} {s:List Bool} {a:Int} (hl:∀e∈E,e.dst.toNat < s.length) (ha:jc s a=true) {n:Int} (hw:Way E a n):jc (gL E s.length s) n=true:=by
 have hc:CQ E (gL E s.length s):=by
  rcases DK E s hl s.length with h|h
  ·exact h
  ·exfalso
   have h1:xu (gL E s.length s)<=s.length:=by
    have:=List.count_le_length (a:=true) (l:=gL E s.length s)
    rwa [qu] at this
   have h2:0 < xu s:=by
    unfold jc at ha
    cases hx:s[a.toNat]? with
    |none=>rw [hx] at ha;cases ha
    |some b=>
     rw [hx] at ha
     have hb:b=true:=ha
     subst hb
     exact List.count_pos_iff.2 (List.mem_of_getElem? hx)
   omega
 induction hw with
 |here=>exact DJ E ha _
 |step e h he hs ih=>exact hc e he (by rw [hs];exact ih)
theorem RX (x:Pr) {ay:List Ch} {proc:Int} (h:wo ay proc x.vars x.body=true):∃N H,HD ay proc x.vars 0 1 ⟨2,[],[]⟩ (lG x) N H:=
 A4 x.body 0 1 ⟨2,[],[]⟩ h (by decide) (by decide)
theorem RW (x:Pr) {ay:List Ch} {proc:Int} (h:wo ay proc x.vars x.body=true) :
  2<=(lG x).nodes/\(∀e∈(lG x).dm,0<=e.src/\e.src < (lG x).nodes/\0<=e.dst/\e.dst < (lG x).nodes/\e.src≠1)/\
  (∀n,0<=n->n < (lG x).nodes->n≠1->Way (lG x).dm 0 n/\oA n (lG x).dm≠[])/\(lG x).nodes<=1+(lG x).dm.length:=by
 obtain⟨N,H,l⟩:=RX x h
 have he:(lG x).dm=N:=by rw [l.dm];rfl
 have hn:(2:Int)<=(lG x).nodes:=l.le
 have hc:=l.cnt
 rw [he]
 refine⟨hn,fun e hm=>?_,fun n h0 h1 h2=>?_,?_⟩
 ·have h1:=l.src e hm
  have h2:=l.dst e hm
  simp only [Int.reduceLE] at h1 h2
  have h1':e.src=0\/(2<=e.src/\e.src < (lG x).nodes):=h1
  have h2':e.dst=0\/e.dst=1\/(2<=e.dst/\e.dst < (lG x).nodes):=h2
  omega
 ·by_cases hz:n=0
  ·subst hz;exact⟨.here,l.leave.ne⟩
  ·have h3:(2:Int)<=n:=by omega
   exact⟨l.go n h3 h1,(l.new n h3 h1).ne⟩
 ·have:(lG x).nodes - 2+1<=N.length:=hc
  omega
end Go.Ax.Ft

set_option maxRecDepth 100000
namespace Go.Ax.Ft
open Go Go.Ax Go.Ax.V
inductive NE where
 |mk (k n:Int) (nm:ByteArray) (kids:List NE)
structure NC where
 op:Int
 l:NE
 r:NE
mutual
inductive NS where
 |mk (kind:Int) (nm tag:ByteArray) (e:NE) (c:NC) (body els:List NS) (c7:List NA)
inductive NA where
 |mk (tag var:ByteArray) (body:List NS)
end
structure VW where
 nm:ByteArray
 kind:Int
 size:Int
 src:ByteArray
 dst:ByteArray
 tags:List ByteArray
structure NM where
 src:Int
 tag:ByteArray
 dst:Int
structure NR where
 chan:ByteArray
 lR:List NM
structure NP where
 nm:ByteArray
 vars:List ByteArray
 body:List NS
structure D4 where
 ay:List VW
 rules:List NR
 procs:List NP
abbrev ss (x:ByteArray):TV:=.s x
def LH (l:List ByteArray):TV:=.l (l.map ss)
mutual
def Gj:NE->TV
 |.mk k n nm ks=>.a [ii k,ii n,ss nm,.l (CN ks)]
def CN:List NE->List TV
 |[]=>[]
 |e::r=>Gj e::CN r
end
def VP:NE->List TV
 |.mk k n nm ks=>[ii k,ii n,ss nm,.l (CN ks)]
def Z_ (c:NC):List TV:=ii c.op::(VP c.l++VP c.r)
def Z9 (c:NC):TV:=.a (Z_ c)
mutual
def NW:NS->TV
 |.mk kind nm tag e c body els c7=>.a ([ii kind,ss nm,ss tag]++VP e++Z_ c++[.l (oI body),.l (oI els),.l (Ee c7)])
def oI:List NS->List TV
 |[]=>[]
 |s::r=>NW s::oI r
def SA:NA->TV
 |.mk tag var body=>.a [ss tag,ss var,.l (oI body)]
def Ee:List NA->List TV
 |[]=>[]
 |s::r=>SA s::Ee r
end
def vg (c:VW):TV:=.a [ss c.nm,ii c.kind,ii c.size,ss c.src,ss c.dst,LH c.tags]
def Qv (m:NM):TV:=.a [ii m.src,ss m.tag,ii m.dst]
def Oj (r:NR):TV:=.a [ss r.chan,.l (r.lR.map Qv)]
def MU (p:NP):TV:=.a [ss p.nm,LH p.vars,.l (oI p.body)]
def cNSy (s:D4):List TV:=[.l (s.ay.map vg),.l (s.rules.map Oj),.l (s.procs.map MU)]
def CM (s:D4):TV:=.a (cNSy s)
theorem Y8 (e:NE):Gj e=.a (VP e):=by cases e;rfl
theorem xq:∀l,CN l=l.map Gj
 |[]=>rfl
 |e::r=>by simp [CN,xq r]
theorem xp:∀l,oI l=l.map NW
 |[]=>rfl
 |e::r=>by simp [oI,xp r]
theorem CP:∀l,Ee l=l.map SA
 |[]=>rfl
 |e::r=>by simp [Ee,CP r]
theorem Iq (e:NE):dh 4 (Gj e):=by cases e;rfl
theorem Qt (e:NS):dh 19 (NW e):=by
 cases e with
 |mk kind nm tag e c body els c7=>cases e;cases c with|mk op l r=>cases l;cases r;rfl
theorem Qx (e:NA):dh 3 (SA e):=by cases e;rfl
theorem CO (e:VW):dh 6 (vg e):=rfl
theorem Qu (e:NM):dh 3 (Qv e):=rfl
theorem FP (e:NR):dh 2 (Oj e):=rfl
theorem LQ (e:NP):dh 3 (MU e):=rfl
mutual
def BZ:NE->Nat
 |.mk _ _ nm ks=>1+nm.size+C1 ks
def C1:List NE->Nat
 |[]=>0
 |e::r=>BZ e+C1 r
end
def M7 (c:NC):Nat:=BZ c.l+BZ c.r
mutual
def L8:NS->Nat
 |.mk _ nm tag e c body els c7=>5+nm.size+tag.size+BZ e+M7 c+lF body+lF els+tq c7
def lF:List NS->Nat
 |[]=>0
 |s::r=>L8 s+lF r
def Oo:NA->Nat
 |.mk tag var body=>2+tag.size+var.size+lF body
def tq:List NA->Nat
 |[]=>0
 |s::r=>Oo s+tq r
end
theorem AF (e:NE):0 < BZ e:=by cases e;simp [BZ];omega
theorem HF (e:NS):0 < L8 e:=by cases e;simp [L8];omega
theorem Rw (e:NA):0 < Oo e:=by cases e;simp [Oo];omega
theorem EC:∀{l:List NE} {x:NE},x∈l->BZ x<=C1 l
 |e::r,x,h=>by
  simp only [C1]
  rcases List.mem_cons.1 h with rfl|h
  ·omega
  ·have:=EC h;omega
theorem EA:∀{l:List NS} {x:NS},x∈l->L8 x<=lF l
 |e::r,x,h=>by
  simp only [lF]
  rcases List.mem_cons.1 h with rfl|h
  ·omega
  ·have:=EA h;omega
theorem B0:∀{l:List NA} {x:NA},x∈l->Oo x<=tq l
 |e::r,x,h=>by
  simp only [tq]
  rcases List.mem_cons.1 h with rfl|h
  ·omega
  ·have:=B0 h;omega
theorem IG:∀(l:List NE),l.length<=C1 l
 |[]=>by simp
 |e::r=>by have:=IG r;have:=AF e;simp only [C1,List.length_cons];omega
theorem EB:∀(l:List NS),l.length<=lF l
 |[]=>by simp
 |e::r=>by have:=EB r;have:=HF e;simp only [lF,List.length_cons];omega
theorem ED:∀(l:List NA),l.length<=tq l
 |[]=>by simp
 |e::r=>by have:=ED r;have:=Rw e;simp only [tq,List.length_cons];omega
structure M6 (s:D4):Prop where
 ay:s.ay.length<=4194304
 rules:s.rules.length<=4194304
 procs:s.procs.length<=4194304
 tags:∀c∈s.ay,c.tags.length<=4194304
 lR:∀r∈s.rules,r.lR.length<=4194304
 vars:∀p∈s.procs,p.vars.length<=4194304
 body:∀p∈s.procs,lF p.body<=4194304
 chan:∀c∈s.ay,c.nm.size<=4194304/\c.src.size<=4194304/\c.dst.size<=4194304/\∀t∈c.tags,t.size<=4194304
 rule:∀r∈s.rules,r.chan.size<=4194304/\∀m∈r.lR,m.tag.size<=4194304
 proc:∀p∈s.procs,p.nm.size<=4194304/\∀v∈p.vars,v.size<=4194304
section
variable (nm:ByteArray->Bool)
end
end Go.Ax.Ft
