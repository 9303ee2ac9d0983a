/- Part 8 of the proof: V17, Ft, Ct. -/
import Derived.Test.YtamgnhdbeecapaaCb4
import Derived.Test.YtamgnhdbeecapaaCb5
import Derived.Test.YtamgnhdbeecapaaRows
import Derived.OpenShut
import Derived.Carry

set_option linter.unusedSimpArgs false
set_option linter.unusedVariables false
namespace Go.Ax.V
open Go.Proofs.Ytamgnhdbeecapaa
section
variable {H:Type} {enc:TypeId×Value→H} {P:Program} {W:World} {L:List TypeId}
end
end Go.Ax.V
set_option linter.unusedSimpArgs false
set_option linter.unusedVariables false
namespace Go.Ax.V
theorem gB {t:Bool} {P:TV→Prop} {k:TV→Prop} (v:TV) (hp:t=true→P v) (hk:k (bif t then v else noT)):∃w,gV (.b t) true P w∧k w:=by
 cases t with
 |true=>exact gV_t rfl (hp rfl) hk
 |false=>exact gV_f rfl hk
theorem gO {t:Bool} {P:TV→Prop} {k:TV→Prop} (v:TV) (hp:t=false→P v) (hk:k (bif t then noT else v)):∃w,gV (.b t) false P w∧k w:=by
 cases t with
 |false=>exact gV_t rfl (hp rfl) hk
 |true=>exact gV_f rfl hk
theorem pkB {t c:Bool} {k:TV→Prop} (hk:k (.b (t&&c))):∃w,pickT (.b t) (bif t then .b c else noT) (.b false)=some w∧k w:=by
 cases t with
 |true=>exact ⟨_,rfl,hk⟩
 |false=>exact ⟨_,rfl,hk⟩
theorem pkO {t c:Bool} {k:TV→Prop} (hk:k (.b (t||c))):∃w,pickT (.b t) (.b true) (bif t then noT else .b c)=some w∧k w:=by
 cases t with
 |true=>exact ⟨_,rfl,hk⟩
 |false=>exact ⟨_,rfl,hk⟩
theorem add_i {a b:Int} (h1:-9223372036854775808≤a + b) (h2:a + b < 9223372036854775808):binT .add (.i .i64 a) (.i .i64 b)=some (.i .i64 (a + b)):=by
 show some (TV.i .i64 (wrapA .i64 (a + b)))=_;rw [wrap_id h1 h2]
theorem sub_i {a b:Int} (h1:-9223372036854775808≤a - b) (h2:a - b < 9223372036854775808):binT .sub (.i .i64 a) (.i .i64 b)=some (.i .i64 (a - b)):=by
 show some (TV.i .i64 (wrapA .i64 (a - b)))=_;rw [wrap_id h1 h2]
theorem idx_i {es:List TV} {j:Nat} {e:TV} (he:es[j]?=some e):idxT (.l es) (.i .i64 j)=some e:=by
 have hj:j < es.length:=by
  rcases Nat.lt_or_ge j es.length with h | h
  ·exact h
  ·rw [List.getElem?_eq_none h] at he;cases he
 have:ixN (.i .i64 (j:Int)) es.length=some j:=by
  show ixA (j:Int) es.length=some j
  have hb:Nat.blt j es.length=true:=Nat.ble_eq_true_of_le hj
  show (bif Nat.blt j es.length then some j else none)=some j
  rw [hb];rfl
 show (match ixN (.i .i64 (j:Int)) es.length with | some k=>es[k]? | none=>none)=_
 rw [this];exact he
theorem take_snoc {α:Type} {l:List α} {i:Nat} {x:α} (h:l[i]?=some x):l.take i++[x]=l.take (i + 1):=by
 rw [List.take_add_one,h];rfl
end Go.Ax.V
set_option linter.unusedSimpArgs false
set_option linter.unusedVariables false
namespace Go.Ax.V
open Go.Proofs.Ytamgnhdbeecapaa
section
variable {H:Type} {enc:TypeId×Value→H} {P:Program} {W:World} {L:List TypeId}
end
theorem args_two {φ:Phi} {K:Nat→Prop} {w:World} {a b:AV} {U V:Value} (h:RelV φ K w a U) (h':RelV φ K w b V):ArgsR φ K w [a,b] #[U,V]:=
 ⟨rfl,fun j x y hx hy=>by
  match j with
  |0=>simp at hx hy;subst hx;subst hy;exact h
  |1=>simp at hx hy;subst hx;subst hy;exact h'
  |j + 2=>simp at hx⟩
end Go.Ax.V

set_option linter.unusedSimpArgs false
set_option linter.unusedVariables false
set_option maxRecDepth 100000
namespace Go.Ax.Ft
open Go Go.Ax Go.Ax.V
inductive Ex where
 |mk (k n v:Int) (kids:List Ex)
structure Co where
 op:Int
 l:Ex
 r:Ex
structure Ch where
 kind:Int
 size:Int
 src:Int
 dst:Int
 tags:Int
 rule:List (List Int)
structure Ed where
 src:Int
 dst:Int
 kind:Int
 var:Int
 chan:Int
 tag:Int
 e:Ex
 c:Co
structure Gr where
 nodes:Int
 edges:List Ed
 heads:List Int
def no0:Ex:=.mk 0 0 0 []
def noCo:Co:=⟨0,no0,no0⟩
def Gr.edge (g:Gr) (e:Ed):Gr:={g with edges:=g.edges++[e]}
def Gr.node (g:Gr):Gr:={g with nodes:=g.nodes + 1}
abbrev ii (n:Int):TV:=.i .i64 n
mutual
def encE:Ex→TV
 |.mk k n v ks=>.a [ii k,ii n,ii v,.l (encEs ks)]
def encEs:List Ex→List TV
 |[]=>[]
 |e :: r=>encE e :: encEs r
end
def cE:Ex→List TV
 |.mk k n v ks=>[ii k,ii n,ii v,.l (encEs ks)]
def cC (c:Co):List TV:=ii c.op :: (cE c.l++cE c.r)
def encR (l:List Int):TV:=.l (l.map ii)
def encCh (c:Ch):TV:=.a [ii c.kind,ii c.size,ii c.src,ii c.dst,ii c.tags,.l (c.rule.map encR)]
def encEd (e:Ed):TV:=.a ([ii e.src,ii e.dst,ii e.kind,ii e.var,ii e.chan,ii e.tag]++cE e.e++cC e.c)
def encGr (g:Gr):TV:=.a [ii g.nodes,.l (g.edges.map encEd),.l (g.heads.map ii)]
theorem vs_g {prog:Map AFunc} {f:Nat} {ts:List TV} {c:TV} (h:VS prog f ts (fun r=>r=c)):VS prog f ts (fun r'=>r'=c∧scOk true c):=h.mono fun r hr=>⟨hr,trivial⟩
theorem not_t (t:Bool):unT .not (.b t)=some (.b (!t)):=by cases t <;> rfl
theorem neq_i (a b:Int):binT .neq (.i .i64 a) (.i .i64 b)=some (.b (!eqA a b)):=rfl
theorem ltA_d (a b:Int):ltA a b=decide (a < b):=ltA_eq a b
theorem eqA_d (a b:Int):eqA a b=decide (a=b):=eqA_eq a b
theorem notlt (a b:Int):(!decide (a < b))=decide (b≤a):=by
 by_cases h:a < b
 ·have:¬b≤a:=by omega
  simp [h,this]
 ·have:b≤a:=by omega
  simp [h,this]
theorem pk_b {t c:Bool}:pickT (.b t) (bif t then .b c else noT) (.b false)=some (.b (t&&c)):=by cases t <;> rfl
theorem pk_o {t c:Bool}:pickT (.b t) (.b true) (bif t then noT else .b c)=some (.b (t||c)):=by cases t <;> rfl
theorem gFf {P:TV→Prop} {k:TV→Prop} (hk:k noT):∃w,gV (.b false) true P w∧k w:=gV_f rfl hk
theorem gOt {P:TV→Prop} {k:TV→Prop} (hk:k noT):∃w,gV (.b true) false P w∧k w:=gV_f rfl hk
theorem pkF {t:Bool} {k:TV→Prop} (hk:k (.b false)):∃w,pickT (.b t) (bif t then .b false else noT) (.b false)=some w∧k w:=by
 cases t with
 |true=>exact ⟨_,rfl,hk⟩
 |false=>exact ⟨_,rfl,hk⟩
theorem pkT {t:Bool} {k:TV→Prop} (hk:k (.b true)):∃w,pickT (.b t) (.b true) (bif t then noT else .b true)=some w∧k w:=by
 cases t with
 |true=>exact ⟨_,rfl,hk⟩
 |false=>exact ⟨_,rfl,hk⟩
theorem sub_o {a b:Int} (h1:-9223372036854775808≤a - b:=by omega) (h2:a - b < 9223372036854775808:=by omega):binT .sub (.i .i64 a) (.i .i64 b)=some (.i .i64 (a - b)):=sub_i h1 h2
theorem add_o {a b:Int} (h1:-9223372036854775808≤a + b:=by omega) (h2:a + b < 9223372036854775808:=by omega):binT .add (.i .i64 a) (.i .i64 b)=some (.i .i64 (a + b)):=add_i h1 h2
theorem gBa {t:Bool} {P:TV→Prop} {k:TV→Prop} {v:TV} (hk:k (bif t then v else noT)) (hp:t=true→P v:=by intro h;first | (rewrite [h];(try dsimp only [cond_true,cond_false]) <;> first | exact sub_o | exact add_o | rfl | exact not_t _ | exact pk_b | exact pk_o | exact ⟨rfl,rfl⟩) | rfl | exact ⟨rfl,rfl⟩):∃w,gV (.b t) true P w∧k w:=gB v hp hk
theorem gOa {t:Bool} {P:TV→Prop} {k:TV→Prop} {v:TV} (hk:k (bif t then noT else v)) (hp:t=false→P v:=by intro h;first | (rewrite [h];(try dsimp only [cond_true,cond_false]) <;> first | exact sub_o | exact add_o | rfl | exact not_t _ | exact pk_b | exact pk_o | exact ⟨rfl,rfl⟩) | rfl | exact ⟨rfl,rfl⟩):∃w,gV (.b t) false P w∧k w:=gO v hp hk
theorem lt_len {i n:Nat} (h:ltA (i:Int) (n:Int)=true):i < n:=by rw [ltA_eq] at h;simpa using h
theorem ge_len {i n:Nat} (hi:i≤n) (h:ltA (i:Int) (n:Int)=false):i=n:=by
 rw [ltA_eq] at h
 have:¬(i:Int) < n:=by simpa using h
 omega
theorem next_i {i n:Nat} (hi:i < n) (hn:n≤4611686018427387904):binT .add (ii i) (ii 1)=some (ii ((i + 1:Nat):Int)):=by
 have:=add_i (a:=(i:Int)) (b:=1) (by omega) (by omega)
 rw [this];rfl
theorem take_all {α:Type} {l:List α} {f:α→Bool} {i:Nat} {x:α} (hx:l[i]?=some x) (h:(l.take i).all f=true) (hf:f x=true):(l.take (i + 1)).all f=true:=by
 rw [←take_snoc hx];simp [h,hf]
theorem not_all {α:Type} {l:List α} {f:α→Bool} {i:Nat} {x:α} (hx:l[i]?=some x) (hf:f x=false):l.all f=false:=by
 rw [List.all_eq_false];exact ⟨x,List.mem_of_getElem? hx,by simp [hf]⟩
def encSys (chans:List Ch) (gs:List Gr) (vars:List Int):TV:=.a [.l (chans.map encCh),.l (gs.map encGr),.l (vars.map ii)]
end Go.Ax.Ft

set_option linter.unusedSimpArgs false
set_option linter.unusedVariables false
namespace Go.Ax.Ft
open Go Go.Ax Go.Ax.V
structure Cf where
 pos:List Int
 vars:List (List Int)
 queues:List (List (Int×Int))
 states:List Int
def encM (m:Int×Int):TV:=.a [ii m.1,ii m.2]
def encQ (q:List (Int×Int)):TV:=.l (q.map encM)
def encCf (c:Cf):TV:=.a [.l (c.pos.map ii),.l (c.vars.map encR),.l (c.queues.map encQ),.l (c.states.map ii)]
def wi (n size:Int):Bool:=decide (0≤n)&&decide (n < size)
def smallB (n:Int):Bool:=decide (-2147483648≤n)&&decide (n≤2147483647)
def msgB (c:Ch) (m:Int×Int):Bool:=wi m.1 c.tags&&smallB m.2
def queueB (c:Ch) (q:List (Int×Int)):Bool:=q.all (msgB c)&&decide ((q.length:Int)≤c.size)
def countsB (chans graphs:Nat) (c:Cf):Bool:=decide ((c.pos.length:Int)=graphs)&&decide ((c.vars.length:Int)=graphs)&&decide ((c.queues.length:Int)=chans)&&decide ((c.states.length:Int)=chans)
def gr0:Gr:=⟨0,[],[]⟩
def ch0:Ch:=⟨0,0,0,0,0,[]⟩
def procB (gs:List Gr) (vs:List Int) (c:Cf) (i:Nat):Bool:=wi (c.pos.getD i 0) (gs.getD i gr0).nodes&&decide (((c.vars.getD i []).length:Int)=vs.getD i 0)&&(c.vars.getD i []).all smallB
def chanB (cs:List Ch) (c:Cf) (i:Nat):Bool:=queueB (cs.getD i ch0) (c.queues.getD i [])&&wi (c.states.getD i 0) (max ((cs.getD i ch0).rule.length:Int) 1)
def likeB (cs:List Ch) (gs:List Gr) (vs:List Int) (c:Cf):Bool:=countsB cs.length gs.length c&&(List.range gs.length).all (procB gs vs c)&&(List.range cs.length).all (chanB cs c)
theorem get_map {α:Type} {f:α→TV} {l:List α} (d:α) {i:Nat} (h:i < l.length):(l.map f)[i]?=some (f (l.getD i d)):=by
 rw [List.getElem?_map,List.getElem?_eq_getElem h,List.getD_eq_getElem?_getD,List.getElem?_eq_getElem h];rfl
theorem range_get {n i:Nat} (h:i < n):(List.range n)[i]?=some i:=by
 rw [List.getElem?_range h]
theorem range_take {n:Nat}:(List.range n).take n=List.range n:=List.take_of_length_le (by simp)
structure szCf (c:Cf):Prop where
 pos:c.pos.length≤4194304
 vars:c.vars.length≤4194304
 var:∀l∈c.vars,l.length≤4194304
 queues:c.queues.length≤4194304
 queue:∀l∈c.queues,l.length≤4194304
 states:c.states.length≤4194304
theorem getD_mem {α:Type} {l:List α} {d:α} {i:Nat} (h:i < l.length):l.getD i d∈l:=by
 rw [List.getD_eq_getElem?_getD,List.getElem?_eq_getElem h];exact List.getElem_mem h
end Go.Ax.Ft
