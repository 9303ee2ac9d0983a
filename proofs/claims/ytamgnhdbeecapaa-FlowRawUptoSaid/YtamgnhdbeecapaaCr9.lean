/- Part 9 of the proof: V17, Ft. -/
import Derived.Test.YtamgnhdbeecapaaCr5
import Derived.Test.YtamgnhdbeecapaaCr6
import Derived.Test.YtamgnhdbeecapaaRows
import Derived.OpenShut
import Derived.Carry

set_option linter.unusedSimpArgs false
set_option linter.unusedVariables false
namespace Go.Ax.V
open Go.Proofs.Ytamgnhdbeecapaa
inductive Row1 where
 |bool
 |int (k:IntKind)
 |str
 |sl (e:TypeId)
 |st (fs:List TypeId)
 |ar (n:Nat) (e:TypeId)
def offsOk (P:Program):List Field→Nat→Option Nat
 |[],o=>some o
 |f :: fs,o=>if f.offset=o then offsOk P fs (o + P.cellsOf f.type) else none
def rowOf (P:Program) (t:TypeId):Option Row1:=match P.underlying t with
 |some .bool=>some .bool
 |some (.int k)=>some (.int k)
 |some .string=>some .str
 |some (.slice e)=>if 0 < P.cellsOf e then some (.sl e) else none
 |some (.struct fs)=>if offsOk P fs.toList 0=some (P.cellsOf t) then some (.st (fs.toList.map (·.type))) else none
 |some (.array n e)=>if P.cellsOf t=n*P.cellsOf e then some (.ar n e) else none
 |_=>none
def aggB:Option Row1→Bool
 |some (.st _)=>true
 |some (.ar _ _)=>true
 |_=>false
def elT (agg:Bool) (us:List TV):TV:=match agg,us with
 |true,us=>.a us
 |false,[x]=>x
 |false,_=>noT
def TyTs (f:TypeId→List TV→Prop):List TypeId→List TV→Prop
 |[],ts=>ts=[]
 |t :: fs,ts=>∃u r,ts=u++r∧f t u∧TyTs f fs r
def TyT (P:Program):Nat→TypeId→List TV→Prop
 |0,_,_=>False
 |n + 1,t,ts=>match rowOf P t with
  |some .bool=>∃b,ts=[.b b]
  |some (.int k)=>∃m,ts=[.i k m]∧(Lit.int k m).wf=true
  |some .str=>∃s:ByteArray,ts=[.s s]∧s.size≤maxLen
  |some (.sl e)=>∃es:List TV,ts=[.l es]∧es.length≤maxLen∧∀(j:Nat) (x:TV),es[j]?=some x→∃us,x=elT (aggB (rowOf P e)) us∧TyT P n e us
  |some (.st fs)=>TyTs (TyT P n) fs ts
  |some (.ar k e)=>∃tss:List (List TV),tss.length=k∧ts=tss.flatten∧∀(j:Nat) (u:List TV),tss[j]?=some u→TyT P n e u
  |none=>False
def goodB (P:Program) (L:List TypeId) (t:TypeId):Bool:=match rowOf P t with
 |none=>false
 |some (.sl e)=>L.contains e
 |some (.st fs)=>fs.all L.contains
 |some (.ar _ e)=>L.contains e
 |_=>true
mutual
def TV.bulk:TV→Nat
 |.l es=>bulks es + 1
 |.a cs=>bulks cs + 1
 |.s b=>b.size + 1
 |.i _ _=>1
 |.b _=>1
 |.f _=>1
 |.np=>1
 |.tp _=>1
def bulks:List TV→Nat
 |[]=>0
 |x :: xs=>x.bulk + bulks xs
end
theorem bulks_append (xs ys:List TV):bulks (xs++ys)=bulks xs + bulks ys:=by
 induction xs with
 |nil=>simp [bulks]
 |cons x xs ih=>simp only [List.cons_append,bulks,ih];omega
abbrev KW (W:World):Nat→Prop:=fun b=>b < W.heap.size
structure Opened (P:Program) (W:World) (bl n:Nat) (t:TypeId) (cs:List Value) (ts:List TV) (az:List AV):Prop where
 ty:TyT P n t ts
 can:CanL ts az
 len:az.length=cs.length
 cells:cs.length=P.cellsOf t∨aggB (rowOf P t)=false
 flat:∀x∈az,AV.flat x=true
 rel:∀(j:Nat) (a:AV) (v:Value),az[j]?=some a→cs[j]?=some v→RelP (KW W) W a v
 bulk:bulks ts + (if aggB (rowOf P t) then 1 else 0)≤bl
theorem flat_one {a:AV} (h:a.flat=true):a.one=true:=by cases a <;> first | rfl | cases h
theorem canL_app {ts us:List TV} {az bs:List AV} (h:CanL ts az) (h':CanL us bs):CanL (ts++us) (az++bs):=by
 induction ts generalizing az with
 |nil=>
  have:az=[]:=List.length_eq_zero_iff.1 h.1.symm
  subst this;exact h'
 |cons t ts ih=>
  match az,h with
  |[],h=>simp [CanL] at h
  |a :: az,h=>
   exact canL_cons (h.2 0 t a rfl rfl) (ih ⟨by simpa using h.1,fun j u y hu hy=>h.2 (j + 1) u y (by simpa using hu) (by simpa using hy)⟩)
theorem canL_one {t:TV} {a:AV} (h:Can t a):CanL [t] [a]:=canL_cons h canL_nil
theorem cell_add {w:World} {a:Addr} {m k:Nat} {v:Value} (h:w.cell? ((a.add m).add k)=some v):w.cell? ⟨a.block,a.off + (m + k),none⟩=some v:=by
 have hs:=World.cell?_spot h
 obtain ⟨b,o,s⟩:=a
 by_cases hm:m=0
 ·subst hm
  by_cases hk:k=0
  ·subst hk;simp [Addr.add] at hs h ⊢;subst hs;exact h
  ·simp [Addr.add,hk] at h ⊢;exact h
 ·by_cases hk:k=0
  ·subst hk;simp [Addr.add,hm] at h ⊢;exact h
  ·simp [Addr.add,hk,hm] at h ⊢;rw [Nat.add_assoc] at h;exact h
theorem cell_spot0 {w:World} {a:Addr} {v:Value} (h:w.cell? ((a.add 0).add 0)=some v):a.spot=none:=by
 simp [Addr.add] at h;exact World.cell?_spot h
theorem cell_lt {w:World} {b o:Nat} {v:Value} (h:w.cell? ⟨b,o,none⟩=some v):b < w.heap.size:=by
 unfold World.cell? at h
 rcases Nat.lt_or_ge b w.heap.size with hb | hb
 ·exact hb
 ·rw [Array.getElem?_eq_none (by simpa using hb)] at h;cases h
section
variable {H:Type} {enc:TypeId×Value→H} {P:Program} {W:World} {L:List TypeId}
theorem ty_one {n:Nat} {t:TypeId} {ts:List TV} (h:TyT P n t ts) (ha:aggB (rowOf P t)=false):∃x,ts=[x]∧x.one=true:=by
 cases n with
 |zero=>cases h
 |succ n=>
  unfold TyT at h
  cases hr:rowOf P t with
  |none=>rw [hr] at h;cases h
  |some r=>
   rw [hr] at h ha
   cases r with
   |bool=>obtain ⟨b,rfl⟩:=h;exact ⟨_,rfl,rfl⟩
   |int k=>obtain ⟨b,rfl,_⟩:=h;exact ⟨_,rfl,rfl⟩
   |str=>obtain ⟨b,rfl,_⟩:=h;exact ⟨_,rfl,rfl⟩
   |sl e=>obtain ⟨b,rfl,_⟩:=h;exact ⟨_,rfl,rfl⟩
   |st fs=>cases ha
   |ar k e=>cases ha
theorem opened_el {bl n:Nat} {t:TypeId} {cs:List Value} {ts:List TV} {az:List AV} (h:Opened P W bl n t cs ts az) :
  CanC (elT (aggB (rowOf P t)) ts) az∧(elT (aggB (rowOf P t)) ts).bulk≤bl:=by
 cases ha:aggB (rowOf P t) with
 |true=>
  refine ⟨.a _ _ h.can.1 h.can.2,?_⟩
  have:=h.bulk
  rw [ha] at this
  simpa [elT,TV.bulk] using this
 |false=>
  obtain ⟨x,rfl,h1⟩:=ty_one h.ty ha
  have hl:=h.can.1
  match az,hl,h with
  |[y],_,h=>
   refine ⟨.one _ _ h1 (h.can.2 0 _ _ rfl rfl),?_⟩
   have:=h.bulk
   rw [ha] at this
   simpa [elT,bulks] using this
theorem open_elems {e:TypeId} {n:Nat} {a:Addr} (hz:0 < P.cellsOf e)
  (ih:∀(cs:List Value) (d:DataW H) (ps:List MemPlace),DataW.trod enc P W 0 (fun _=>true) true n e cs=some (d,ps)→∃ts az,Opened P W (Rows.uptoBulk d) n e cs ts az) :
  ∀(xs:List (DataW H×List MemPlace)) (o:Nat),(∀i,i < xs.length→(W.cells? 0 (a.add ((o + i)*P.cellsOf e)) (P.cellsOf e)).bind (DataW.trod enc P W 0 (fun _=>true) true n e)=xs[i]?)→
   ∃(es:List TV) (cells:List AV),es.length=xs.length∧cells.length=xs.length*P.cellsOf e∧(∀x∈cells,AV.flat x=true)∧
    (∀(j:Nat) (x:TV),es[j]?=some x→CanC x ((cells.drop (j*P.cellsOf e)).take (P.cellsOf e))∧∃us,x=elT (aggB (rowOf P e)) us∧TyT P n e us)∧
    (∀(j:Nat) (y:AV),cells[j]?=some y→∃v,W.cell? ⟨a.block,a.off + (o*P.cellsOf e + j),none⟩=some v∧RelP (KW W) W y v)∧
    bulks es≤Rows.uptoBulkAll (xs.map (·.1))∧(o=0→xs≠[]→a.spot=none)
 |[],o,_=>⟨[],[],rfl,by simp,by simp,by simp,by simp,by simp [bulks,Rows.uptoBulkAll],fun _ h=>absurd rfl h⟩
 |x :: xs,o,h=>by
  have h0:=h 0 (by simp)
  simp only [Nat.add_zero,List.getElem?_cons_zero] at h0
  obtain ⟨cs,hc,ht⟩:=Option.bind_eq_some_iff.1 h0
  obtain ⟨_,hcl,hce⟩:=World.cells?_some hc
  obtain ⟨ts,az,ho⟩:=ih cs x.1 x.2 ht
  obtain ⟨es,cells,e1,e2,e3,e4,e5,e6,_⟩:=open_elems hz ih xs (o + 1) (fun i hi=>by
   have:=h (i + 1) (by simpa using hi)
   rw [List.getElem?_cons_succ] at this
   rw [←this]
   congr 3
   congr 1
   omega)
  obtain ⟨c1,c2⟩:=opened_el ho
  have hal:az.length=P.cellsOf e:=by rw [ho.len,hcl]
  refine ⟨elT (aggB (rowOf P e)) ts :: es,az++cells,by simp [e1],by simp [hal,e2,Nat.add_mul];omega,?_,?_,?_,?_,?_⟩
  ·intro y hy
   rcases List.mem_append.1 hy with hy | hy
   ·exact ho.flat y hy
   ·exact e3 y hy
  ·intro j y hy
   cases j with
   |zero=>
    simp only [List.getElem?_cons_zero,Option.some.injEq] at hy
    subst hy
    refine ⟨?_,ts,rfl,ho.ty⟩
    simpa [←hal] using c1
   |succ j=>
    obtain ⟨f1,f2⟩:=e4 j y (by simpa using hy)
    refine ⟨?_,f2⟩
    have:(j + 1)*P.cellsOf e=az.length + j*P.cellsOf e:=by rw [hal,Nat.add_mul];omega
    rw [this,←List.drop_drop,List.drop_left]
    exact f1
  ·intro j y hy
   by_cases hj:j < az.length
   ·rw [List.getElem?_append_left hj] at hy
    have hv:cs[j]?=some (cs[j]'(by rw [←ho.len];exact hj)):=List.getElem?_eq_getElem _
    refine ⟨_,?_,ho.rel j y _ hy hv⟩
    have:=hce j (by rw [hal] at hj;exact hj)
    rw [hv] at this
    exact cell_add this
   ·rw [List.getElem?_append_right (by omega)] at hy
    obtain ⟨v,g1,g2⟩:=e5 _ _ hy
    refine ⟨v,?_,g2⟩
    rw [←g1]
    congr 2
    rw [Nat.add_mul,hal]
    omega
  ·simp only [bulks,List.map_cons,Rows.uptoBulkAll]
   omega
  ·rintro rfl _
   have:=hce 0 hz
   obtain ⟨v,hv⟩:∃v,cs[0]?=some v:=by rw [List.getElem?_eq_getElem (by omega)];exact ⟨_,rfl⟩
   rw [hv] at this
   simp only [Nat.zero_mul] at this
   exact cell_spot0 this
theorem open_fields {n:Nat} {cs:List Value}
  (ih:∀(t:TypeId) (cs:List Value) (d:DataW H) (ps:List MemPlace),t∈L→DataW.trod enc P W 0 (fun _=>true) true n t cs=some (d,ps)→∃ts az,Opened P W (Rows.uptoBulk d) n t cs ts az) :
  ∀(fs:List Field) (xs:List (DataW H×List MemPlace)) (o:Nat),offsOk P fs o=some cs.length→(∀f∈fs,f.type∈L)→xs.length=fs.length→
   (∀(i:Nat) (f:Field),fs[i]?=some f→DataW.trod enc P W 0 (fun _=>true) true n f.type ((cs.drop f.offset).take (P.cellsOf f.type))=xs[i]?)→
   ∃ts az,TyTs (TyT P n) (fs.map (·.type)) ts∧CanL ts az∧az.length=(cs.drop o).length∧(∀x∈az,AV.flat x=true)∧
    (∀(j:Nat) (a:AV) (v:Value),az[j]?=some a→(cs.drop o)[j]?=some v→RelP (KW W) W a v)∧bulks ts≤Rows.uptoBulkAll (xs.map (·.1))
 |[],xs,o,hok,_,hl,_=>by
  cases hok
  exact ⟨[],[],rfl,canL_nil,by simp,by simp,by simp,by simp [bulks]⟩
 |f :: fs,xs,o,hok,hL,hl,h=>by
  unfold offsOk at hok
  split at hok
  case isFalse=>cases hok
  case isTrue hf=>
  match xs,hl with
  |x :: xs,hl=>
  have h0:=h 0 f rfl
  simp only [List.getElem?_cons_zero] at h0
  obtain ⟨ts,az,ho⟩:=ih _ _ x.1 x.2 (hL f (by simp)) h0
  obtain ⟨ts',az',g1,g2,g3,g4,g5,g6⟩:=open_fields ih fs xs _ hok (fun f' hf'=>hL f' (by simp [hf'])) (by simpa using hl) (fun i f' hf'=>by
   have:=h (i + 1) f' (by simpa using hf')
   simpa using this)
  have hmono:∀(fs:List Field) (o z:Nat),offsOk P fs o=some z→o≤z:=by
   intro fs
   induction fs with
   |nil=>intro o z hz;cases hz;exact Nat.le_refl _
   |cons f fs ihf=>
    intro o z hz
    unfold offsOk at hz
    split at hz
    ·have:=ihf _ _ hz;omega
    ·cases hz
  have hle:=hmono _ _ _ hok
  have hal:az.length=P.cellsOf f.type:=by
   rw [ho.len,List.length_take,List.length_drop,hf];omega
  refine ⟨ts++ts',az++az',⟨ts,ts',rfl,ho.ty,g1⟩,canL_app ho.can g2,?_,?_,?_,?_⟩
  ·rw [List.length_append,g3,hal,List.length_drop,List.length_drop];omega
  ·intro y hy
   rcases List.mem_append.1 hy with hy | hy
   ·exact ho.flat y hy
   ·exact g4 y hy
  ·intro j a v ha hv
   by_cases hj:j < az.length
   ·rw [List.getElem?_append_left hj] at ha
    refine ho.rel j a v ha ?_
    rw [List.getElem?_take,if_pos (by omega),hf]
    exact hv
   ·rw [List.getElem?_append_right (by omega)] at ha
    refine g5 _ a v ha ?_
    rw [List.getElem?_drop] at hv ⊢
    rw [←hv]
    congr 1
    omega
  ·rw [bulks_append]
   have:=ho.bulk
   simp only [List.map_cons,Rows.uptoBulkAll]
   omega
theorem open_places {e:TypeId} {n:Nat} {cs:List Value}
  (ih:∀(cs:List Value) (d:DataW H) (ps:List MemPlace),DataW.trod enc P W 0 (fun _=>true) true n e cs=some (d,ps)→∃ts az,Opened P W (Rows.uptoBulk d) n e cs ts az) :
  ∀(xs:List (DataW H×List MemPlace)) (o:Nat),cs.length=(o + xs.length)*P.cellsOf e→
   (∀i,i < xs.length→DataW.trod enc P W 0 (fun _=>true) true n e ((cs.drop ((o + i)*P.cellsOf e)).take (P.cellsOf e))=xs[i]?)→
   ∃(tss:List (List TV)) (az:List AV),tss.length=xs.length∧(∀(j:Nat) (u:List TV),tss[j]?=some u→TyT P n e u)∧CanL tss.flatten az∧az.length=(cs.drop (o*P.cellsOf e)).length∧(∀x∈az,AV.flat x=true)∧
    (∀(j:Nat) (a:AV) (v:Value),az[j]?=some a→(cs.drop (o*P.cellsOf e))[j]?=some v→RelP (KW W) W a v)∧bulks tss.flatten≤Rows.uptoBulkAll (xs.map (·.1))
 |[],o,hl,_=>⟨[],[],rfl,by simp,canL_nil,by simp [hl],by simp,by simp,by simp [bulks]⟩
 |x :: xs,o,hl,h=>by
  have h0:=h 0 (by simp)
  simp only [Nat.add_zero,List.getElem?_cons_zero] at h0
  obtain ⟨ts,az,ho⟩:=ih _ x.1 x.2 h0
  have hlen:(o + 1)*P.cellsOf e≤cs.length:=by
   rw [hl]
   exact Nat.mul_le_mul_right _ (by simp)
  have hal:az.length=P.cellsOf e:=by
   rw [ho.len,List.length_take,List.length_drop]
   rw [Nat.add_mul] at hlen
   omega
  obtain ⟨tss,az',g0,g1,g2,g3,g4,g5,g6⟩:=open_places ih xs (o + 1) (by rw [hl];congr 1;simp;omega) (fun i hi=>by
   have:=h (i + 1) (by simpa using hi)
   rw [List.getElem?_cons_succ] at this
   rw [←this]
   congr 4
   omega)
  refine ⟨ts :: tss,az++az',by simp [g0],?_,?_,?_,?_,?_,?_⟩
  ·intro j u hu
   cases j with
   |zero=>simp at hu;subst hu;exact ho.ty
   |succ j=>exact g1 j u (by simpa using hu)
  ·exact canL_app ho.can g2
  ·rw [List.length_append,g3,hal,List.length_drop,List.length_drop]
   rw [Nat.add_mul] at hlen ⊢
   omega
  ·intro y hy
   rcases List.mem_append.1 hy with hy | hy
   ·exact ho.flat y hy
   ·exact g4 y hy
  ·intro j a v ha hv
   by_cases hj:j < az.length
   ·rw [List.getElem?_append_left hj] at ha
    refine ho.rel j a v ha ?_
    rw [List.getElem?_take,if_pos (by omega)]
    exact hv
   ·rw [List.getElem?_append_right (by omega)] at ha
    refine g5 _ a v ha ?_
    rw [List.getElem?_drop] at hv ⊢
    rw [←hv]
    congr 1
    rw [Nat.add_mul]
    omega
  ·rw [List.flatten_cons,bulks_append]
   have:=ho.bulk
   simp only [List.map_cons,Rows.uptoBulkAll]
   omega
theorem open_tree (hL:∀t∈L,goodB P L t=true):∀(n:Nat) (t:TypeId) (cs:List Value) (d:DataW H) (ps:List MemPlace),t∈L→DataW.trod enc P W 0 (fun _=>true) true n t cs=some (d,ps)→
  ∃ts az,Opened P W (Rows.uptoBulk d) n t cs ts az
 |0,t,cs,d,ps,_,h=>by simp [DataW.trod] at h
 |n + 1,t,cs,d,ps,ht,h=>by
  have hg:=hL t ht
  unfold goodB at hg
  cases hr:rowOf P t with
  |none=>rw [hr] at hg;cases hg
  |some r=>
   rw [hr] at hg
   have hr0:=hr
   unfold rowOf at hr
   have ih:=open_tree hL n
   split at hr
   case h_1 hu=>
    cases hr
    obtain ⟨b,rfl,e⟩:=DataW.trod_bool hu h
    cases e
    refine ⟨[.b b],[.bool b],?_,canL_one (.b b),rfl,.inr (by rw [hr0];rfl),by simp [AV.flat],?_,by rw [hr0];simp [bulks,TV.bulk,Rows.uptoBulk,aggB]⟩
    ·unfold TyT;rw [hr0];exact ⟨b,rfl⟩
    ·intro j a v ha hv
     cases j with
     |zero=>simp at ha hv;subst ha;subst hv;exact .bool b
     |succ j=>simp at ha
   case h_2 k hu=>
    cases hr
    obtain ⟨m,rfl,e,hw⟩:=DataW.trod_int hu h
    cases e
    refine ⟨[.i k m],[.int k m],?_,canL_one (.i k m),rfl,.inr (by rw [hr0];rfl),by simp [AV.flat],?_,by rw [hr0];simp [bulks,TV.bulk,Rows.uptoBulk,aggB]⟩
    ·unfold TyT;rw [hr0];exact ⟨m,rfl,hw⟩
    ·intro j a v ha hv
     cases j with
     |zero=>simp at ha hv;subst ha;subst hv;exact .int k m
     |succ j=>simp at ha
   case h_3 hu=>
    cases hr
    obtain ⟨s,rfl,e,hw⟩:=DataW.trod_string hu h
    cases e
    refine ⟨[.s s],[.str s],?_,canL_one (.s s),rfl,.inr (by rw [hr0];rfl),by simp [AV.flat],?_,by rw [hr0];simp [bulks,TV.bulk,Rows.uptoBulk,aggB]⟩
    ·unfold TyT;rw [hr0];exact ⟨s,rfl,hw⟩
    ·intro j a v ha hv
     cases j with
     |zero=>simp at ha hv;subst ha;subst hv;exact .str s
     |succ j=>simp at ha
   case h_4 e hu=>
    split at hr
    case isFalse=>cases hr
    case isTrue hz=>
    cases hr
    have he:e∈L:=by simpa using hg
    rcases DataW.trod_slice hu h with ⟨rfl,ex⟩ | ⟨a,len,cap,elems,rest,m,hm,rfl,ex,_,hlc,hcm,hel,hes,_,_⟩
    ·cases ex
     refine ⟨[.l []],[.nils],?_,canL_one .nil,rfl,.inr (by rw [hr0];rfl),by simp [AV.flat],?_,by rw [hr0];simp [bulks,TV.bulk,Rows.uptoBulk,aggB]⟩
     ·unfold TyT;rw [hr0];exact ⟨[],rfl,by simp,by simp⟩
     ·intro j a v ha hv
      cases j with
      |zero=>simp at ha hv;subst ha;subst hv;exact .nils
      |succ j=>simp at ha
    ·cases ex
     obtain rfl:n=m:=by omega
     obtain ⟨es,cells,e1,e2,e3,e4,e5,e6,e7⟩:=open_elems (a:=a) hz (fun cs d ps hh=>ih e cs d ps he hh) elems 0 (fun i hi=>by rw [Nat.zero_add];exact hes i (by omega))
     refine ⟨[.l es],[.imm cells len none],?_,canL_one ?_,rfl,.inr (by rw [hr0];rfl),by simp [AV.flat],?_,?_⟩
     ·unfold TyT;rw [hr0]
      refine ⟨es,rfl,by omega,fun j x hx=>(e4 j x hx).2⟩
     ·exact .imm es cells len (P.cellsOf e) none (by omega) (by rw [e2,hel]) hz e3 (fun j x hx=>(e4 j x hx).1)
     ·intro j y v hy hv
      cases j with
      |succ j=>simp at hy
      |zero=>
       simp at hy hv;subst hy;subst hv
       refine .imm cells len none a cap (fun j=>(W.cell? ⟨a.block,a.off + j,none⟩).getD default) ?_ hlc (by simp) (fun j y hy=>flat_one (e3 y (List.mem_of_getElem? hy))) ?_ ?_
       ·intro hne
        have hx:elems≠[]:=by rintro rfl;apply hne;apply List.length_eq_zero_iff.1;rw [e2];simp
        refine ⟨e7 rfl hx,?_⟩
        obtain ⟨y,hy⟩:∃y,cells[0]?=some y:=by
         cases cells with
         |nil=>exact absurd rfl hne
         |cons y _=>exact ⟨y,rfl⟩
        obtain ⟨v,hv,_⟩:=e5 0 y hy
        exact cell_lt hv
       ·intro j hj
        obtain ⟨v,hv,_⟩:=e5 j _ (List.getElem?_eq_getElem hj)
        simp only [Nat.zero_mul,Nat.zero_add] at hv
        rw [hv];rfl
       ·intro j y hy
        obtain ⟨v,hv,hrel⟩:=e5 j y hy
        simp only [Nat.zero_mul,Nat.zero_add] at hv
        simp only [hv,Option.getD_some]
        exact hrel
     ·rw [hr0]
      simp only [bulks,TV.bulk,Rows.uptoBulk,aggB]
      simp
      omega
   case h_5 fs hu=>
    split at hr
    case isFalse=>cases hr
    case isTrue hz=>
    cases hr
    obtain ⟨xs,m,hm,ex,hcl,hxl,hxs⟩:=DataW.trod_struct hu h
    cases ex
    obtain rfl:n=m:=by omega
    have hall:∀f∈fs.toList,f.type∈L:=by
     intro f hf
     have:=List.all_eq_true.1 hg f.type (List.mem_map_of_mem hf)
     simpa using this
    obtain ⟨ts,az,g1,g2,g3,g4,g5,g6⟩:=open_fields (L:=L) (cs:=cs) (fun t cs d ps hl hh=>ih t cs d ps hl hh) fs.toList xs 0 (by rw [hz,hcl]) hall (by simpa using hxl) (fun i f hf=>hxs i f (by simpa using hf))
    refine ⟨ts,az,?_,g2,by simpa using g3,.inl hcl,g4,fun j a v ha hv=>g5 j a v ha (by simpa using hv),?_⟩
    ·unfold TyT;rw [hr0];exact g1
    ·rw [hr0]
     simp only [Rows.uptoBulk,aggB]
     simp
     omega
   case h_6 k e hu=>
    split at hr
    case isFalse=>cases hr
    case isTrue hz=>
    cases hr
    have he:e∈L:=by simpa using hg
    obtain ⟨xs,m,hm,ex,hcl,hxl,hxs⟩:=DataW.trod_array hu h
    cases ex
    obtain rfl:n=m:=by omega
    obtain ⟨tss,az,g0,g1,g2,g3,g4,g5,g6⟩:=open_places (cs:=cs) (fun cs d ps hh=>ih e cs d ps he hh) xs 0 (by rw [hcl,hz,hxl];simp) (fun i hi=>by rw [Nat.zero_add];exact hxs i (by omega))
    refine ⟨tss.flatten,az,?_,g2,by simpa using g3,.inl hcl,g4,fun j a v ha hv=>g5 j a v ha (by simpa using hv),?_⟩
    ·unfold TyT;rw [hr0];exact ⟨tss,by omega,rfl,g1⟩
    ·rw [hr0]
     simp only [Rows.uptoBulk,aggB]
     simp
     omega
   case h_7=>cases hr
end
end Go.Ax.V
set_option linter.unusedSimpArgs false
set_option linter.unusedVariables false
namespace Go.Ax.V
theorem eq_f {a b:Int} (h:a≠b):eqA a b=false:=by rw [eqA_eq];simpa using h
theorem gB {t:Bool} {P:TV→Prop} {k:TV→Prop} (v:TV) (hp:t=true→P v) (hk:k (bif t then v else noT)):∃w,gV (.b t) true P w∧k w:=by
 cases t with
 |true=>exact gV_t rfl (hp rfl) hk
 |false=>exact gV_f rfl hk
theorem gO {t:Bool} {P:TV→Prop} {k:TV→Prop} (v:TV) (hp:t=false→P v) (hk:k (bif t then noT else v)):∃w,gV (.b t) false P w∧k w:=by
 cases t with
 |false=>exact gV_t rfl (hp rfl) hk
 |true=>exact gV_f rfl hk
theorem pkB {t c:Bool} {k:TV→Prop} (hk:k (.b (t&&c))):∃w,pickT (.b t) (bif t then .b c else noT) (.b false)=some w∧k w:=by
 cases t with
 |true=>exact ⟨_,rfl,hk⟩
 |false=>exact ⟨_,rfl,hk⟩
theorem pkO {t c:Bool} {k:TV→Prop} (hk:k (.b (t||c))):∃w,pickT (.b t) (.b true) (bif t then noT else .b c)=some w∧k w:=by
 cases t with
 |true=>exact ⟨_,rfl,hk⟩
 |false=>exact ⟨_,rfl,hk⟩
theorem vs_ex {prog:Map AFunc} {f:Nat} {ts:List TV} {R K:TV→Prop} (h:VS prog f ts R) (hs:∀r,R r→scOk true r∧K r):VS prog f ts (fun r=>scOk true r∧K r):=h.mono hs
theorem add_i {a b:Int} (h1:-9223372036854775808≤a + b) (h2:a + b < 9223372036854775808):binT .add (.i .i64 a) (.i .i64 b)=some (.i .i64 (a + b)):=by
 show some (TV.i .i64 (wrapA .i64 (a + b)))=_;rw [wrap_id h1 h2]
theorem sub_i {a b:Int} (h1:-9223372036854775808≤a - b) (h2:a - b < 9223372036854775808):binT .sub (.i .i64 a) (.i .i64 b)=some (.i .i64 (a - b)):=by
 show some (TV.i .i64 (wrapA .i64 (a - b)))=_;rw [wrap_id h1 h2]
theorem mul_i {a b:Int} (h1:-9223372036854775808≤a*b) (h2:a*b < 9223372036854775808):binT .mul (.i .i64 a) (.i .i64 b)=some (.i .i64 (a*b)):=by
 show some (TV.i .i64 (wrapA .i64 (a*b)))=_;rw [wrap_id h1 h2]
theorem quo_i {a b:Int} (h0:b≠0) (h1:-9223372036854775808≤a.tdiv b) (h2:a.tdiv b < 9223372036854775808):binT .quo (.i .i64 a) (.i .i64 b)=some (.i .i64 (a.tdiv b)):=by
 show (match (bif eqA b 0 then none else some (.int .i64 (wrapA .i64 (a.tdiv b))):Option AV) with | some r=>flatV r | none=>none)=_
 rw [eq_f h0,wrap_id h1 h2];rfl
theorem idx_i {es:List TV} {j:Nat} {e:TV} (he:es[j]?=some e):idxT (.l es) (.i .i64 j)=some e:=by
 have hj:j < es.length:=by
  rcases Nat.lt_or_ge j es.length with h | h
  ·exact h
  ·rw [List.getElem?_eq_none h] at he;cases he
 have:ixN (.i .i64 (j:Int)) es.length=some j:=by
  show ixA (j:Int) es.length=some j
  have hb:Nat.blt j es.length=true:=Nat.ble_eq_true_of_le hj
  show (bif Nat.blt j es.length then some j else none)=some j
  rw [hb];rfl
 show (match ixN (.i .i64 (j:Int)) es.length with | some k=>es[k]? | none=>none)=_
 rw [this];exact he
theorem app_i {bytes:Nat} {es xs:List TV} (h1:(es.length + xs.length)*bytes≤most) (h2:es.length + xs.length≤most):appT bytes es xs=some (es++xs):=by
 unfold appT
 rw [Nat.ble_eq_true_of_le h1,Nat.ble_eq_true_of_le h2];rfl
theorem take_snoc {α:Type} {l:List α} {i:Nat} {x:α} (h:l[i]?=some x):l.take i++[x]=l.take (i + 1):=by
 rw [List.take_add_one,h];rfl
end Go.Ax.V
set_option linter.unusedSimpArgs false
set_option linter.unusedVariables false
namespace Go.Ax.V
open Go.Proofs.Ytamgnhdbeecapaa
theorem grown_same {W W':World} (h:RowKit.Grown W W') {p:MemPlace} (hp:p.block < W.heap.size):W.sameAt W' p:=by
 have h1:=h.1.2.2 p.block hp
 cases p with
 |cell b o=>
  change b < W.heap.size at hp
  change (match W.heap[b]?,W'.heap[b]? with
   |some (.cells c t fr),some (.cells c' t' fr')=>t'=t∧fr'=fr∧c'.size=c.size∧∀j:Nat,¬False→c'[j]?=c[j]?
   |some (.map es clock),some (.map es' clock')=>False∨(es'=es∧clock'=clock)
   |o,o'=>o'=o) at h1
  show W'.cell? ⟨b,o,none⟩=W.cell? ⟨b,o,none⟩
  unfold World.cell?
  simp only
  split at h1
  ·rename_i e1 e2
   rw [e1,e2]
   exact h1.2.2.2 o (fun h=>h)
  ·rename_i e1 e2
   rw [e1,e2]
  ·rw [h1]
 |map b=>
  change b < W.heap.size at hp
  change (match W.heap[b]?,W'.heap[b]? with
   |some (.cells c t fr),some (.cells c' t' fr')=>t'=t∧fr'=fr∧c'.size=c.size∧∀j:Nat,¬False→c'[j]?=c[j]?
   |some (.map es clock),some (.map es' clock')=>False∨(es'=es∧clock'=clock)
   |o,o'=>o'=o) at h1
  show W'.heap[b]?=W.heap[b]?
  split at h1
  ·rename_i e1 e2
   obtain ⟨rfl,rfl,hs,hc⟩:=h1
   rw [e1,e2]
   congr 2
   exact Array.ext_getElem? (fun j=>hc j (fun h=>h))
  ·rename_i e1 e2
   obtain ⟨rfl,rfl⟩:=h1.elim (fun h=>h.elim) (fun h=>h)
   rw [e1,e2]
  ·exact h1
theorem carry {H:Type} {enc:TypeId×Value→H} {P:Program} {t:TypeId} (hl:laidOutB P=true) (hr:P.readableRec t=true) (hrow:t < P.types.size) {W W':World} {v:Value} {d:DataW H} {ps:List MemPlace} {sp:Nat→Bool}
  (h:DataW.Trod enc P W 0 (fun _=>true) true t v d ps) (hg:RowKit.Grown W W') (hlt:∀x∈ps,x.block < W.heap.size) (hs:∀p∈ps,sp p.block=true):DataW.Trod enc P W' 0 sp true t v d ps:=
 WideElems.Trod_stays hl hr hrow h (fun x hx=>grown_same hg (hlt x hx)) hs
section
variable {H:Type} {enc:TypeId×Value→H} {P:Program} {W:World} {L:List TypeId}
theorem open_agg (hL:∀t∈L,goodB P L t=true) {t:TypeId} (ht:t∈L) (ha:aggB (rowOf P t)=true) {r:Reach} {base:Nat} {v:Value} {d:DataW H} {ps:List MemPlace}
  (hval:Value.okWide P W r base t v) (h:DataW.Trod enc P W 0 (fun _=>true) true t v d ps) :
  ∃n ts az,TyT P n t ts∧Can (.a ts) (.agg az)∧RelV noPhi (fun b=>b < W.heap.size) W (.agg az) v∧bulks ts + 1≤Rows.uptoBulk d:=by
 obtain ⟨n,hn⟩:=h
 obtain ⟨ts,az,ho⟩:=open_tree hL n t _ _ _ ht hn
 have hv:∃cs,v=.agg cs:=by
  unfold Value.okWide at hval
  unfold rowOf at ha
  split at ha
  case h_5 fs hu=>rw [hu] at hval;obtain ⟨cs,h1,_⟩:=hval;exact ⟨cs,h1⟩
  case h_6 k e hu=>rw [hu] at hval;obtain ⟨cs,h1,_⟩:=hval;exact ⟨cs,h1⟩
  case h_4=>split at ha <;> cases ha
  all_goals cases ha
 obtain ⟨cs,rfl⟩:=hv
 have hb:=ho.bulk
 rw [ha] at hb
 refine ⟨n,ts,az,ho.ty,.a _ _ ho.can.1 ho.flat ho.can.2,.agg az cs ?_ (fun j a hj=>flat_one (ho.flat a (List.mem_of_getElem? hj))) (fun j a w hj hw=>.pure (ho.rel j a w hj ?_)),by simpa using hb⟩
 ·have:=ho.len
  simpa [Value.cells] using this
 ·simpa [Value.cells] using hw
end
end Go.Ax.V

set_option linter.unusedSimpArgs false
set_option linter.unusedVariables false
set_option maxRecDepth 100000
namespace Go.Ax.Ft
open Go Go.Ax Go.Ax.V
inductive Ex where
 |mk (k n v:Int) (kids:List Ex)
structure Co where
 op:Int
 l:Ex
 r:Ex
mutual
inductive Sm where
 |mk (kind var chan tag:Int) (e:Ex) (c:Co) (body els:List Sm) (arms:List Ar)
inductive Ar where
 |mk (tag var:Int) (body:List Sm)
end
structure Ch where
 kind:Int
 size:Int
 src:Int
 dst:Int
 tags:Int
 rule:List (List Int)
structure Pr where
 vars:Int
 body:List Sm
structure Pg where
 chans:List Ch
 procs:List Pr
def kidsN (k:Int):Int:=if k=1∨k=2 then 0 else if k=3 then 1 else if 4≤k∧k≤8 then 2 else -1
def within (n lo hi:Int):Bool:=decide (lo≤n)&&decide (n≤hi)
mutual
def okE (vars:Int):Ex→Bool
 |.mk k n v ks=>decide (kidsN k=ks.length)&&(decide (k=1)||decide (n=0))&&(decide (k=2)||decide (v=0))&&(!decide (k=2)||within v 0 (vars - 1))&&okEs vars ks&&within n 0 2147483647
def okEs (vars:Int):List Ex→Bool
 |[]=>true
 |e :: r=>okE vars e&&okEs vars r
end
def okC (vars:Int) (c:Co):Bool:=within c.op 1 6&&okE vars c.l&&okE vars c.r
def noE:Ex→Bool
 |.mk k n v ks=>decide (k=0)&&decide (n=0)&&decide (v=0)&&ks.isEmpty
def noC (c:Co):Bool:=decide (c.op=0)&&noE c.l&&noE c.r
def endB (chans:List Ch) (proc:Int) (dst:Bool) (c:Int):Bool:=
 match c with
 |.ofNat c=>match chans[c]? with
  |some x=>decide ((bif dst then x.dst else x.src)=proc)
  |none=>false
 |.negSucc _=>false
def tagB (chans:List Ch) (c tag:Int):Bool:=match chans[c.toNat]? with
 |some x=>within tag 0 (x.tags - 1)
 |none=>false
mutual
def okS (chans:List Ch) (proc vars:Int):Sm→Bool
 |.mk kind var chan tag e c body els arms=>
  if kind=1 then noC c&&body.isEmpty&&els.isEmpty&&arms.isEmpty&&decide (chan=0)&&decide (tag=0)&&within var 0 (vars - 1)&&okE vars e
  else if kind=2 then noE e&&arms.isEmpty&&decide (chan=0)&&decide (tag=0)&&decide (var=0)&&okC vars c&&okSs chans proc vars body&&okSs chans proc vars els
  else if kind=3 then noE e&&els.isEmpty&&arms.isEmpty&&decide (chan=0)&&decide (tag=0)&&decide (var=0)&&okC vars c&&okSs chans proc vars body
  else if kind=4 then noC c&&body.isEmpty&&els.isEmpty&&arms.isEmpty&&decide (var=0)&&endB chans proc false chan&&tagB chans chan tag&&okE vars e
  else if kind=5 then noE e&&noC c&&body.isEmpty&&els.isEmpty&&decide (var=0)&&decide (tag=0)&&endB chans proc true chan&&okAs chans proc vars chan [] arms&&!arms.isEmpty
  else if kind=6 then noE e&&body.isEmpty&&els.isEmpty&&arms.isEmpty&&decide (chan=0)&&decide (tag=0)&&decide (var=0)&&okC vars c
  else if kind=7 then noE e&&noC c&&body.isEmpty&&els.isEmpty&&arms.isEmpty&&decide (chan=0)&&decide (tag=0)&&within var 0 (vars - 1)
  else false
def okSs (chans:List Ch) (proc vars:Int):List Sm→Bool
 |[]=>true
 |s :: r=>okS chans proc vars s&&okSs chans proc vars r
def okAs (chans:List Ch) (proc vars chan:Int) (had:List Int):List Ar→Bool
 |[]=>true
 |.mk tag var body :: r=>tagB chans chan tag&&!had.contains tag&&within var 0 (vars - 1)&&okSs chans proc vars body&&okAs chans proc vars chan (tag :: had) r
end
def topR (len:Int) (k:Int):List Int→Int→Option Int
 |[],top=>some top
 |x :: r,top=>if within x (-1) (len - 1) then topR len k r (if x=-1 then top else max (max top k) x) else none
def topRs (len tags:Int):Int→List (List Int)→Int→Option Int
 |_,[],top=>some top
 |k,row :: r,top=>if (row.length:Int)=tags then match topR len k row top with
  |some top=>topRs len tags (k + 1) r top
  |none=>none
  else none
def ruled (c:Ch):Bool:=match topRs c.rule.length c.tags 0 c.rule 0 with
 |some top=>c.rule.isEmpty||(decide (top=(c.rule.length:Int) - 1)&&decide ((c.rule.length:Int)≤8))
 |none=>false
def okCh (procs:Int) (c:Ch):Bool:=
 within c.kind 0 2&&within c.size 1 16&&within c.tags 1 4&&within c.src 0 (procs - 1)&&within c.dst 0 (procs - 1)&&!decide (c.src=c.dst)&&ruled c
def okPs (chans:List Ch):Int→List Pr→Bool
 |_,[]=>true
 |i,x :: r=>within x.vars 0 6&&okSs chans i x.vars x.body&&okPs chans (i + 1) r
def okPg (p:Pg):Bool:=decide (p.chans.length≤4)&&decide (1≤p.procs.length)&&decide (p.procs.length≤4)&&p.chans.all (okCh p.procs.length)&&okPs p.chans 0 p.procs
structure Ed where
 src:Int
 dst:Int
 kind:Int
 var:Int
 chan:Int
 tag:Int
 e:Ex
 c:Co
structure Gr where
 nodes:Int
 edges:List Ed
 heads:List Int
def no0:Ex:=.mk 0 0 0 []
def noCo:Co:=⟨0,no0,no0⟩
def notI (op:Int):Int:=if op=1 then 2 else if op=2 then 1 else if op=3 then 6 else if op=4 then 5 else if op=5 then 4 else if op=6 then 3 else 0
def notC (c:Co):Co:=⟨notI c.op,c.l,c.r⟩
def Gr.edge (g:Gr) (e:Ed):Gr:={g with edges:=g.edges++[e]}
def Gr.node (g:Gr):Gr:={g with nodes:=g.nodes + 1}
def Gr.head (g:Gr) (a:Int):Gr:={g with heads:=g.heads++[a]}
mutual
def stF:Sm→Int→Int→Gr→Gr
 |.mk kind var chan tag e c body els arms,a,b,g=>
  if kind=1 then g.edge ⟨a,b,1,var,0,0,e,noCo⟩
  else if kind=2 then
   let g1:=laF body g.nodes b (g.node.edge ⟨a,g.nodes,2,0,0,0,no0,c⟩)
   laF els g1.nodes b (g1.node.edge ⟨a,g1.nodes,2,0,0,0,no0,notC c⟩)
  else if kind=3 then laF body g.nodes a ((((g.head a).node).edge ⟨a,g.nodes,2,0,0,0,no0,c⟩).edge ⟨a,b,2,0,0,0,no0,notC c⟩)
  else if kind=4 then g.edge ⟨a,b,3,0,chan,tag,e,noCo⟩
  else if kind=5 then arF chan arms a b g
  else if kind=6 then g.edge ⟨a,b,5,0,0,0,no0,c⟩
  else if kind=7 then g.edge ⟨a,b,6,var,0,0,no0,noCo⟩
  else g
def laF:List Sm→Int→Int→Gr→Gr
 |[],a,b,g=>g.edge ⟨a,b,0,0,0,0,no0,noCo⟩
 |[s],a,b,g=>stF s a b g
 |s :: t :: r,a,b,g=>laF (t :: r) g.nodes b (stF s a g.nodes g.node)
def arF (chan:Int):List Ar→Int→Int→Gr→Gr
 |[],_,_,g=>g
 |.mk tag var body :: r,a,b,g=>arF chan r a b (laF body g.nodes b (g.node.edge ⟨a,g.nodes,4,var,chan,tag,no0,noCo⟩))
end
abbrev ii (n:Int):TV:=.i .i64 n
mutual
def encE:Ex→TV
 |.mk k n v ks=>.a [ii k,ii n,ii v,.l (encEs ks)]
def encEs:List Ex→List TV
 |[]=>[]
 |e :: r=>encE e :: encEs r
end
def cE:Ex→List TV
 |.mk k n v ks=>[ii k,ii n,ii v,.l (encEs ks)]
def cC (c:Co):List TV:=ii c.op :: (cE c.l++cE c.r)
def encC (c:Co):TV:=.a (cC c)
mutual
def encS:Sm→TV
 |.mk kind var chan tag e c body els arms=>.a ([ii kind,ii var,ii chan,ii tag]++cE e++cC c++[.l (encSs body),.l (encSs els),.l (encAs arms)])
def encSs:List Sm→List TV
 |[]=>[]
 |s :: r=>encS s :: encSs r
def encA:Ar→TV
 |.mk tag var body=>.a [ii tag,ii var,.l (encSs body)]
def encAs:List Ar→List TV
 |[]=>[]
 |s :: r=>encA s :: encAs r
end
def encR (l:List Int):TV:=.l (l.map ii)
def encCh (c:Ch):TV:=.a [ii c.kind,ii c.size,ii c.src,ii c.dst,ii c.tags,.l (c.rule.map encR)]
def encPr (p:Pr):TV:=.a [ii p.vars,.l (encSs p.body)]
def encPg (p:Pg):TV:=.a [.l (p.chans.map encCh),.l (p.procs.map encPr)]
def encEd (e:Ed):TV:=.a ([ii e.src,ii e.dst,ii e.kind,ii e.var,ii e.chan,ii e.tag]++cE e.e++cC e.c)
theorem encE_a (e:Ex):encE e=.a (cE e):=by cases e;rfl
theorem encEs_map:∀l,encEs l=l.map encE
 |[]=>rfl
 |e :: r=>by simp [encEs,encEs_map r]
theorem encSs_map:∀l,encSs l=l.map encS
 |[]=>rfl
 |e :: r=>by simp [encSs,encSs_map r]
theorem encAs_map:∀l,encAs l=l.map encA
 |[]=>rfl
 |e :: r=>by simp [encAs,encAs_map r]
theorem encE_sz (e:Ex):szOk 4 (encE e):=by cases e;rfl
theorem encS_sz (e:Sm):szOk 20 (encS e):=by
 cases e with
 |mk kind var chan tag e c body els arms=>cases e;cases c with | mk op l r=>cases l;cases r;rfl
theorem encCh_sz (e:Ch):szOk 6 (encCh e):=rfl
mutual
def szE:Ex→Nat
 |.mk _ _ _ ks=>1 + szEs ks
def szEs:List Ex→Nat
 |[]=>0
 |e :: r=>szE e + szEs r
end
def szC (c:Co):Nat:=szE c.l + szE c.r
mutual
def szS:Sm→Nat
 |.mk _ _ _ _ e c body els arms=>5 + szE e + szC c + szSs body + szSs els + szAs arms
def szSs:List Sm→Nat
 |[]=>0
 |s :: r=>szS s + szSs r
def szA:Ar→Nat
 |.mk _ _ body=>2 + szSs body
def szAs:List Ar→Nat
 |[]=>0
 |s :: r=>szA s + szAs r
end
theorem szE_pos (e:Ex):0 < szE e:=by cases e;simp [szE];omega
theorem szS_pos (e:Sm):0 < szS e:=by cases e;simp [szS];omega
theorem szA_pos (e:Ar):0 < szA e:=by cases e;simp [szA];omega
theorem szEs_mem:∀{l:List Ex} {x:Ex},x∈l→szE x≤szEs l
 |e :: r,x,h=>by
  simp only [szEs]
  rcases List.mem_cons.1 h with rfl | h
  ·omega
  ·have:=szEs_mem h;omega
theorem szSs_mem:∀{l:List Sm} {x:Sm},x∈l→szS x≤szSs l
 |e :: r,x,h=>by
  simp only [szSs]
  rcases List.mem_cons.1 h with rfl | h
  ·omega
  ·have:=szSs_mem h;omega
theorem szAs_mem:∀{l:List Ar} {x:Ar},x∈l→szA x≤szAs l
 |e :: r,x,h=>by
  simp only [szAs]
  rcases List.mem_cons.1 h with rfl | h
  ·omega
  ·have:=szAs_mem h;omega
theorem szEs_len:∀(l:List Ex),l.length≤szEs l
 |[]=>by simp
 |e :: r=>by have:=szEs_len r;have:=szE_pos e;simp only [szEs,List.length_cons];omega
theorem szSs_len:∀(l:List Sm),l.length≤szSs l
 |[]=>by simp
 |e :: r=>by have:=szSs_len r;have:=szS_pos e;simp only [szSs,List.length_cons];omega
theorem szAs_len:∀(l:List Ar),l.length≤szAs l
 |[]=>by simp
 |e :: r=>by have:=szAs_len r;have:=szA_pos e;simp only [szAs,List.length_cons];omega
theorem vs_g {prog:Map AFunc} {f:Nat} {ts:List TV} {c:TV} (h:VS prog f ts (fun r=>r=c)):VS prog f ts (fun r'=>r'=c∧scOk true c):=h.mono fun r hr=>⟨hr,trivial⟩
theorem not_t (t:Bool):unT .not (.b t)=some (.b (!t)):=by cases t <;> rfl
theorem geq_i (a b:Int):binT .geq (.i .i64 a) (.i .i64 b)=some (.b (!ltA a b)):=rfl
theorem leq_i (a b:Int):binT .leq (.i .i64 a) (.i .i64 b)=some (.b (!ltA b a)):=rfl
theorem neq_i (a b:Int):binT .neq (.i .i64 a) (.i .i64 b)=some (.b (!eqA a b)):=rfl
theorem ltA_d (a b:Int):ltA a b=decide (a < b):=ltA_eq a b
theorem eqA_d (a b:Int):eqA a b=decide (a=b):=eqA_eq a b
theorem notlt (a b:Int):(!decide (a < b))=decide (b≤a):=by
 by_cases h:a < b
 ·have:¬b≤a:=by omega
  simp [h,this]
 ·have:b≤a:=by omega
  simp [h,this]
theorem pk_b {t c:Bool}:pickT (.b t) (bif t then .b c else noT) (.b false)=some (.b (t&&c)):=by cases t <;> rfl
theorem pk_o {t c:Bool}:pickT (.b t) (.b true) (bif t then noT else .b c)=some (.b (t||c)):=by cases t <;> rfl
theorem gFf {P:TV→Prop} {k:TV→Prop} (hk:k noT):∃w,gV (.b false) true P w∧k w:=gV_f rfl hk
theorem gOt {P:TV→Prop} {k:TV→Prop} (hk:k noT):∃w,gV (.b true) false P w∧k w:=gV_f rfl hk
theorem pkF {t:Bool} {k:TV→Prop} (hk:k (.b false)):∃w,pickT (.b t) (bif t then .b false else noT) (.b false)=some w∧k w:=by
 cases t with
 |true=>exact ⟨_,rfl,hk⟩
 |false=>exact ⟨_,rfl,hk⟩
theorem pkT {t:Bool} {k:TV→Prop} (hk:k (.b true)):∃w,pickT (.b t) (.b true) (bif t then noT else .b true)=some w∧k w:=by
 cases t with
 |true=>exact ⟨_,rfl,hk⟩
 |false=>exact ⟨_,rfl,hk⟩
theorem gOB {t c:Bool} {P:TV→Prop} {k:TV→Prop} (v:TV) (hp:t=false→c=true→P v) (hk:k (bif t then noT else bif c then v else noT)):∃w,gV (bif t then noT else .b c) true P w∧k w:=by
 cases t with
 |true=>exact gV_n hk
 |false=>exact gB (t:=c) v (hp rfl) hk
theorem gOO {t c:Bool} {P:TV→Prop} {k:TV→Prop} (v:TV) (hp:t=false→c=false→P v) (hk:k (bif t then noT else bif c then noT else v)):∃w,gV (bif t then noT else .b c) false P w∧k w:=by
 cases t with
 |true=>exact gV_n hk
 |false=>exact gO (t:=c) v (hp rfl) hk
theorem gBB {t c:Bool} {P:TV→Prop} {k:TV→Prop} (v:TV) (hp:t=true→c=true→P v) (hk:k (bif t then bif c then v else noT else noT)):∃w,gV (bif t then .b c else noT) true P w∧k w:=by
 cases t with
 |false=>exact gV_n hk
 |true=>exact gB (t:=c) v (hp rfl) hk
theorem gBO {t c:Bool} {P:TV→Prop} {k:TV→Prop} (v:TV) (hp:t=true→c=false→P v) (hk:k (bif t then bif c then noT else v else noT)):∃w,gV (bif t then .b c else noT) false P w∧k w:=by
 cases t with
 |false=>exact gV_n hk
 |true=>exact gO (t:=c) v (hp rfl) hk
theorem sub_o {a b:Int} (h1:-9223372036854775808≤a - b:=by omega) (h2:a - b < 9223372036854775808:=by omega):binT .sub (.i .i64 a) (.i .i64 b)=some (.i .i64 (a - b)):=sub_i h1 h2
theorem add_o {a b:Int} (h1:-9223372036854775808≤a + b:=by omega) (h2:a + b < 9223372036854775808:=by omega):binT .add (.i .i64 a) (.i .i64 b)=some (.i .i64 (a + b)):=add_i h1 h2
theorem app_o {bytes:Nat} {es xs:List TV} (h1:(es.length + xs.length)*bytes≤most:=by simp only [List.length_singleton,List.length_nil,most];omega) (h2:es.length + xs.length≤most:=by simp only [List.length_singleton,List.length_nil,most];omega):appT bytes es xs=some (es++xs):=app_i h1 h2
theorem gBa {t:Bool} {P:TV→Prop} {k:TV→Prop} {v:TV} (hk:k (bif t then v else noT)) (hp:t=true→P v:=by intro h;first | (rewrite [h];(try dsimp only [cond_true,cond_false]) <;> first | exact sub_o | exact add_o | rfl | exact not_t _ | exact pk_b | exact pk_o | exact ⟨rfl,rfl⟩) | rfl | exact ⟨rfl,rfl⟩):∃w,gV (.b t) true P w∧k w:=gB v hp hk
theorem gOa {t:Bool} {P:TV→Prop} {k:TV→Prop} {v:TV} (hk:k (bif t then noT else v)) (hp:t=false→P v:=by intro h;first | (rewrite [h];(try dsimp only [cond_true,cond_false]) <;> first | exact sub_o | exact add_o | rfl | exact not_t _ | exact pk_b | exact pk_o | exact ⟨rfl,rfl⟩) | rfl | exact ⟨rfl,rfl⟩):∃w,gV (.b t) false P w∧k w:=gO v hp hk
theorem gOBa {t c:Bool} {P:TV→Prop} {k:TV→Prop} {v:TV} (hk:k (bif t then noT else bif c then v else noT)) (hp:t=false→c=true→P v:=by intro h h';first | (rewrite [h];(try dsimp only [cond_true,cond_false]) <;> (try rewrite [h']) <;> (try dsimp only [cond_true,cond_false]) <;> first | exact sub_o | exact add_o | rfl | exact not_t _ | exact pk_b | exact pk_o | exact ⟨rfl,rfl⟩) | rfl | exact ⟨rfl,rfl⟩):∃w,gV (bif t then noT else .b c) true P w∧k w:=gOB v hp hk
theorem gOOa {t c:Bool} {P:TV→Prop} {k:TV→Prop} {v:TV} (hk:k (bif t then noT else bif c then noT else v)) (hp:t=false→c=false→P v:=by intro h h';first | (rewrite [h];(try dsimp only [cond_true,cond_false]) <;> (try rewrite [h']) <;> (try dsimp only [cond_true,cond_false]) <;> first | exact sub_o | exact add_o | rfl | exact not_t _ | exact pk_b | exact pk_o | exact ⟨rfl,rfl⟩) | rfl | exact ⟨rfl,rfl⟩):∃w,gV (bif t then noT else .b c) false P w∧k w:=gOO v hp hk
theorem gBBa {t c:Bool} {P:TV→Prop} {k:TV→Prop} {v:TV} (hk:k (bif t then bif c then v else noT else noT)) (hp:t=true→c=true→P v:=by intro h h';first | (rewrite [h];(try dsimp only [cond_true,cond_false]) <;> (try rewrite [h']) <;> (try dsimp only [cond_true,cond_false]) <;> first | exact sub_o | exact add_o | rfl | exact not_t _ | exact pk_b | exact pk_o | exact ⟨rfl,rfl⟩) | rfl | exact ⟨rfl,rfl⟩):∃w,gV (bif t then .b c else noT) true P w∧k w:=gBB v hp hk
theorem gBOa {t c:Bool} {P:TV→Prop} {k:TV→Prop} {v:TV} (hk:k (bif t then bif c then noT else v else noT)) (hp:t=true→c=false→P v:=by intro h h';first | (rewrite [h];(try dsimp only [cond_true,cond_false]) <;> (try rewrite [h']) <;> (try dsimp only [cond_true,cond_false]) <;> first | exact sub_o | exact add_o | rfl | exact not_t _ | exact pk_b | exact pk_o | exact ⟨rfl,rfl⟩) | rfl | exact ⟨rfl,rfl⟩):∃w,gV (bif t then .b c else noT) false P w∧k w:=gBO v hp hk
theorem lt_len {i n:Nat} (h:ltA (i:Int) (n:Int)=true):i < n:=by rw [ltA_eq] at h;simpa using h
theorem ge_len {i n:Nat} (hi:i≤n) (h:ltA (i:Int) (n:Int)=false):i=n:=by
 rw [ltA_eq] at h
 have:¬(i:Int) < n:=by simpa using h
 omega
theorem next_i {i n:Nat} (hi:i < n) (hn:n≤4611686018427387904):binT .add (ii i) (ii 1)=some (ii ((i + 1:Nat):Int)):=by
 have:=add_i (a:=(i:Int)) (b:=1) (by omega) (by omega)
 rw [this];rfl
theorem okEs_all (vars:Int):∀l,okEs vars l=l.all (okE vars)
 |[]=>rfl
 |e :: r=>by simp [okEs,okEs_all vars r]
theorem okSs_all (chans:List Ch) (proc vars:Int):∀l,okSs chans proc vars l=l.all (okS chans proc vars)
 |[]=>rfl
 |e :: r=>by simp [okSs,okSs_all chans proc vars r]
theorem take_all {α:Type} {l:List α} {f:α→Bool} {i:Nat} {x:α} (hx:l[i]?=some x) (h:(l.take i).all f=true) (hf:f x=true):(l.take (i + 1)).all f=true:=by
 rw [←take_snoc hx];simp [h,hf]
theorem not_all {α:Type} {l:List α} {f:α→Bool} {i:Nat} {x:α} (hx:l[i]?=some x) (hf:f x=false):l.all f=false:=by
 rw [List.all_eq_false];exact ⟨x,List.mem_of_getElem? hx,by simp [hf]⟩
structure szPg (p:Pg):Prop where
 chans:p.chans.length≤4194304
 procs:p.procs.length≤4194304
 rules:∀c∈p.chans,c.rule.length≤4194304
 rows:∀c∈p.chans,∀r∈c.rule,r.length≤4194304
 body:∀x∈p.procs,szSs x.body≤4194304
def rawF (x:Pr):Gr:=laF x.body 0 1 ⟨2,[],[]⟩
end Go.Ax.Ft
