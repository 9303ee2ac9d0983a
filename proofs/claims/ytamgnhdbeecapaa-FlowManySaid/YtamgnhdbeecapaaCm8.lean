/- Part 8 of the proof: V17, Ft, Fp. -/
import Derived.Test.YtamgnhdbeecapaaCm4
import Derived.Test.YtamgnhdbeecapaaCm5
import Derived.Test.YtamgnhdbeecapaaRows
import Derived.OpenShut
import Derived.Carry
set_option linter.unusedSimpArgs false
set_option linter.unusedVariables false
namespace Go.Ax.V
open Go.Proofs.Ytamgnhdbeecapaa
section
variable {H:Type} {enc:TypeId×Value->H} {P:Program} {W:World} {L:List TypeId}
end
end Go.Ax.V
namespace Go.Ax.V
theorem OY {a b:Int} (h:¬a < b):wm a b=false:=by rw [oz];simpa using h
theorem OX {a b:Int} (h:a < b):wm a b=true:=by rw [oz];simpa using h
theorem SF {a b:Int} (h:a=b):Gb a b=true:=by rw [sy];simpa using h
theorem gB {t:Bool} {P:TV->Prop} {k:TV->Prop} (v:TV) (hp:t=true->P v) (hk:k (bif t then v else iT)):∃w,gV (.b t) true P w/\k w:=by
 cases t with
 |true=>exact jQ rfl (hp rfl) hk
 |false=>exact J6 rfl hk
theorem gO {t:Bool} {P:TV->Prop} {k:TV->Prop} (v:TV) (hp:t=false->P v) (hk:k (bif t then iT else v)):∃w,gV (.b t) false P w/\k w:=by
 cases t with
 |false=>exact jQ rfl (hp rfl) hk
 |true=>exact J6 rfl hk
theorem Qt {t c:Bool} {k:TV->Prop} (hk:k (.b (t&&c))):∃w,fR (.b t) (bif t then .b c else iT) (.b false)=some w/\k w:=by
 cases t with
 |true=>exact⟨_,rfl,hk⟩
 |false=>exact⟨_,rfl,hk⟩
theorem Se {t c:Bool} {k:TV->Prop} (hk:k (.b (t||c))):∃w,fR (.b t) (.b true) (bif t then iT else .b c)=some w/\k w:=by
 cases t with
 |true=>exact⟨_,rfl,hk⟩
 |false=>exact⟨_,rfl,hk⟩
theorem KJ {prog:Map ak} {f:Nat} {ts:List TV} {R K:TV->Prop} (h:VS prog f ts R) (hs:∀r,R r->qz true r/\K r):VS prog f ts (fun r=>qz true r/\K r):=h.mono hs
theorem IX {a b:Int} (h1:-9223372036854775808<=a+b) (h2:a+b < 9223372036854775808):b7 .add (.i .i64 a) (.i .i64 b)=some (.i .i64 (a+b)):=by show some (TV.i .i64 (f_ .i64 (a+b)))=_;rw [sU h1 h2]
theorem N5 {a b:Int} (h1:-9223372036854775808<=a - b) (h2:a - b < 9223372036854775808):b7 .sub (.i .i64 a) (.i .i64 b)=some (.i .i64 (a - b)):=by show some (TV.i .i64 (f_ .i64 (a - b)))=_;rw [sU h1 h2]
theorem jO {es:List TV} {j:Nat} {e:TV} (he:es[j]?=some e):D5 (.l es) (.i .i64 j)=some e:=by
 have hj:j < es.length:=by
  rcases Nat.lt_or_ge j es.length with h|h
  ·exact h
  ·rw [Ut h] at he;cases he
 have:lY (.i .i64 (j:Int)) es.length=some j:=by show H9 (j:Int) es.length=some j;have hb:Nat.blt j es.length=true:=Nat.ble_eq_true_of_le hj;show (bif Nat.blt j es.length then some j else none)=some j;rw [hb];rfl
 show (match lY (.i .i64 (j:Int)) es.length with|some k=>es[k]?|none=>none)=_;rw [this];exact he
theorem Pn {bytes:Nat} {es xs:List TV} (h1:(es.length+xs.length)*bytes<=most) (h2:es.length+xs.length<=most):jT bytes es xs=some (es++xs):=by unfold jT;rw [Nat.ble_eq_true_of_le h1,Nat.ble_eq_true_of_le h2];rfl
theorem zx {α:Type} {l:List α} {i:Nat} {x:α} (h:l[i]?=some x):l.take i++[x]=l.take (i+1):=by rw [List.take_add_one,h];rfl
end Go.Ax.V
namespace Go.Ax.V
open Go.Proofs.Ytamgnhdbeecapaa
section
variable {H:Type} {enc:TypeId×Value->H} {P:Program} {W:World} {L:List TypeId}
end
end Go.Ax.V
set_option maxRecDepth 100000
namespace Go.Ax.Ft
open Go Go.Ax Go.Ax.V
inductive Ex where
 |mk (k n v:Int) (kids:List Ex)
structure Co where
 op:Int
 l:Ex
 r:Ex
mutual
inductive Sm where
 |mk (kind var chan tag:Int) (e:Ex) (c:Co) (body els:List Sm) (arms:List Ar)
inductive Ar where
 |mk (tag var:Int) (body:List Sm)
end
structure Ch where
 kind:Int
 size:Int
 src:Int
 dst:Int
 tags:Int
 rule:List (List Int)
structure Pr where
 vars:Int
 body:List Sm
structure Pg where
 aO:List Ch
 procs:List Pr
def yq (k:Int):Int:=if k=1\/k=2 then 0 else if k=3 then 1 else if 4<=k/\k<=8 then 2 else -1
def within (n lo hi:Int):Bool:=decide (lo<=n)&&decide (n<=hi)
mutual
def EV (vars:Int):Ex->Bool
 |.mk k n v ks=>decide (yq k=ks.length)&&(decide (k=1)||decide (n=0))&&(decide (k=2)||decide (v=0))&&(!decide (k=2)||within v 0 (vars - 1))&&JK vars ks&&within n 0 2147483647
def JK (vars:Int):List Ex->Bool
 |[]=>true
 |e::r=>EV vars e&&JK vars r
end
def Qv (vars:Int) (c:Co):Bool:=within c.op 1 6&&EV vars c.l&&EV vars c.r
def JW:Ex->Bool
 |.mk k n v ks=>decide (k=0)&&decide (n=0)&&decide (v=0)&&ks.isEmpty
def Nf (c:Co):Bool:=decide (c.op=0)&&JW c.l&&JW c.r
def zo (aO:List Ch) (proc:Int) (dst:Bool) (c:Int):Bool:=
 match c with
 |.ofNat c=>match aO[c]? with
  |some x=>decide ((bif dst then x.dst else x.src)=proc)
  |none=>false
 |.negSucc _=>false
def GD (aO:List Ch) (c tag:Int):Bool:=match aO[c.toNat]? with
 |some x=>within tag 0 (x.tags - 1)
 |none=>false
mutual
def BP (aO:List Ch) (proc vars:Int):Sm->Bool
 |.mk kind var chan tag e c body els arms=>
  if kind=1 then Nf c&&body.isEmpty&&els.isEmpty&&arms.isEmpty&&decide (chan=0)&&decide (tag=0)&&within var 0 (vars - 1)&&EV vars e
  else if kind=2 then JW e&&arms.isEmpty&&decide (chan=0)&&decide (tag=0)&&decide (var=0)&&Qv vars c&&si aO proc vars body&&si aO proc vars els
  else if kind=3 then JW e&&els.isEmpty&&arms.isEmpty&&decide (chan=0)&&decide (tag=0)&&decide (var=0)&&Qv vars c&&si aO proc vars body
  else if kind=4 then Nf c&&body.isEmpty&&els.isEmpty&&arms.isEmpty&&decide (var=0)&&zo aO proc false chan&&GD aO chan tag&&EV vars e
  else if kind=5 then JW e&&Nf c&&body.isEmpty&&els.isEmpty&&decide (var=0)&&decide (tag=0)&&zo aO proc true chan&&DP aO proc vars chan [] arms&&!arms.isEmpty
  else if kind=6 then JW e&&body.isEmpty&&els.isEmpty&&arms.isEmpty&&decide (chan=0)&&decide (tag=0)&&decide (var=0)&&Qv vars c
  else if kind=7 then JW e&&Nf c&&body.isEmpty&&els.isEmpty&&arms.isEmpty&&decide (chan=0)&&decide (tag=0)&&within var 0 (vars - 1)
  else false
def si (aO:List Ch) (proc vars:Int):List Sm->Bool
 |[]=>true
 |s::r=>BP aO proc vars s&&si aO proc vars r
def DP (aO:List Ch) (proc vars chan:Int) (had:List Int):List Ar->Bool
 |[]=>true
 |.mk tag var body::r=>GD aO chan tag&&!had.contains tag&&within var 0 (vars - 1)&&si aO proc vars body&&DP aO proc vars chan (tag::had) r
end
def FE (len:Int) (k:Int):List Int->Int->Option Int
 |[],top=>some top
 |x::r,top=>if within x (-1) (len - 1) then FE len k r (if x=-1 then top else max (max top k) x) else none
def zu (len tags:Int):Int->List (List Int)->Int->Option Int
 |_,[],top=>some top
 |k,row::r,top=>if (row.length:Int)=tags then match FE len k row top with
  |some top=>zu len tags (k+1) r top
  |none=>none
  else none
def zS (c:Ch):Bool:=match zu c.rule.length c.tags 0 c.rule 0 with
 |some top=>c.rule.isEmpty||(decide (top=(c.rule.length:Int) - 1)&&decide ((c.rule.length:Int)<=8))
 |none=>false
def FT (procs:Int) (c:Ch):Bool:=
 within c.kind 0 2&&within c.size 1 16&&within c.tags 1 4&&within c.src 0 (procs - 1)&&within c.dst 0 (procs - 1)&&!decide (c.src=c.dst)&&zS c
def zk (aO:List Ch):Int->List Pr->Bool
 |_,[]=>true
 |i,x::r=>within x.vars 0 6&&si aO i x.vars x.body&&zk aO (i+1) r
def Bb (p:Pg):Bool:=decide (p.aO.length<=4)&&decide (1<=p.procs.length)&&decide (p.procs.length<=4)&&p.aO.all (FT p.procs.length)&&zk p.aO 0 p.procs
structure Ed where
 src:Int
 dst:Int
 kind:Int
 var:Int
 chan:Int
 tag:Int
 e:Ex
 c:Co
structure Gr where
 nodes:Int
 c6:List Ed
 heads:List Int
def jW:Ex:=.mk 0 0 0 []
def oq:Co:=⟨0,jW,jW⟩
def LX (op:Int):Int:=if op=1 then 2 else if op=2 then 1 else if op=3 then 6 else if op=4 then 5 else if op=5 then 4 else if op=6 then 3 else 0
def Bd (c:Co):Co:=⟨LX c.op,c.l,c.r⟩
def Gr.cg (g:Gr) (e:Ed):Gr:={g with c6:=g.c6++[e]}
def Gr.node (g:Gr):Gr:={g with nodes:=g.nodes+1}
def Gr.head (g:Gr) (a:Int):Gr:={g with heads:=g.heads++[a]}
mutual
def BO:Sm->Int->Int->Gr->Gr
 |.mk kind var chan tag e c body els arms,a,b,g=>
  if kind=1 then g.cg ⟨a,b,1,var,0,0,e,oq⟩
  else if kind=2 then
   let g1:=nQ body g.nodes b (g.node.cg ⟨a,g.nodes,2,0,0,0,jW,c⟩)
   nQ els g1.nodes b (g1.node.cg ⟨a,g1.nodes,2,0,0,0,jW,Bd c⟩)
  else if kind=3 then nQ body g.nodes a ((((g.head a).node).cg ⟨a,g.nodes,2,0,0,0,jW,c⟩).cg ⟨a,b,2,0,0,0,jW,Bd c⟩)
  else if kind=4 then g.cg ⟨a,b,3,0,chan,tag,e,oq⟩
  else if kind=5 then Dm chan arms a b g
  else if kind=6 then g.cg ⟨a,b,5,0,0,0,jW,c⟩
  else if kind=7 then g.cg ⟨a,b,6,var,0,0,jW,oq⟩
  else g
def nQ:List Sm->Int->Int->Gr->Gr
 |[],a,b,g=>g.cg ⟨a,b,0,0,0,0,jW,oq⟩
 |[s],a,b,g=>BO s a b g
 |s::t::r,a,b,g=>nQ (t::r) g.nodes b (BO s a g.nodes g.node)
def Dm (chan:Int):List Ar->Int->Int->Gr->Gr
 |[],_,_,g=>g
 |.mk tag var body::r,a,b,g=>Dm chan r a b (nQ body g.nodes b (g.node.cg ⟨a,g.nodes,4,var,chan,tag,jW,oq⟩))
end
abbrev ii (n:Int):TV:=.i .i64 n
mutual
def qV:Ex->TV
 |.mk k n v ks=>.a [ii k,ii n,ii v,.l (rq ks)]
def rq:List Ex->List TV
 |[]=>[]
 |e::r=>qV e::rq r
end
def cE:Ex->List TV
 |.mk k n v ks=>[ii k,ii n,ii v,.l (rq ks)]
def cC (c:Co):List TV:=ii c.op::(cE c.l++cE c.r)
def Eh (c:Co):TV:=.a (cC c)
mutual
def nV:Sm->TV
 |.mk kind var chan tag e c body els arms=>.a ([ii kind,ii var,ii chan,ii tag]++cE e++cC c++[.l (cZ body),.l (cZ els),.l (o8 arms)])
def cZ:List Sm->List TV
 |[]=>[]
 |s::r=>nV s::cZ r
def Km:Ar->TV
 |.mk tag var body=>.a [ii tag,ii var,.l (cZ body)]
def o8:List Ar->List TV
 |[]=>[]
 |s::r=>Km s::o8 r
end
def sN (l:List Int):TV:=.l (l.map ii)
def dg (c:Ch):TV:=.a [ii c.kind,ii c.size,ii c.src,ii c.dst,ii c.tags,.l (c.rule.map sN)]
def rm (p:Pr):TV:=.a [ii p.vars,.l (cZ p.body)]
def oX (p:Pg):TV:=.a [.l (p.aO.map dg),.l (p.procs.map rm)]
def C0 (e:Ed):TV:=.a ([ii e.src,ii e.dst,ii e.kind,ii e.var,ii e.chan,ii e.tag]++cE e.e++cC e.c)
def Fl (g:Gr):TV:=.a [ii g.nodes,.l (g.c6.map C0),.l (g.heads.map ii)]
theorem mc:∀l,rq l=l.map qV
 |[]=>rfl
 |e::r=>by simp [rq,mc r]
theorem gN:∀l,cZ l=l.map nV
 |[]=>rfl
 |e::r=>by simp [cZ,gN r]
theorem qu:∀l,o8 l=l.map Km
 |[]=>rfl
 |e::r=>by simp [o8,qu r]
theorem Fm (e:Ex):lE 4 (qV e):=by cases e;rfl
theorem xp (e:Sm):lE 20 (nV e):=by
 cases e with
 |mk kind var chan tag e c body els arms=>cases e;cases c with|mk op l r=>cases l;cases r;rfl
theorem C1 (e:Ch):lE 6 (dg e):=rfl
mutual
def Gs:Ex->Nat
 |.mk _ _ _ ks=>1+BZ ks
def BZ:List Ex->Nat
 |[]=>0
 |e::r=>Gs e+BZ r
end
def KN (c:Co):Nat:=Gs c.l+Gs c.r
mutual
def BN:Sm->Nat
 |.mk _ _ _ _ e c body els arms=>5+Gs e+KN c+gk body+gk els+rV arms
def gk:List Sm->Nat
 |[]=>0
 |s::r=>BN s+gk r
def Jn:Ar->Nat
 |.mk _ _ body=>2+gk body
def rV:List Ar->Nat
 |[]=>0
 |s::r=>Jn s+rV r
end
theorem Jl (e:Ex):0 < Gs e:=by cases e;simp [Gs];omega
theorem sZ (e:Sm):0 < BN e:=by cases e;simp [BN];omega
theorem Jm (e:Ar):0 < Jn e:=by cases e;simp [Jn];omega
theorem xz:∀{l:List Ex} {x:Ex},x∈l->Gs x<=BZ l
 |e::r,x,h=>by
  simp only [BZ];rcases UI.1 h with rfl|h
  ·omega
  ·have:=xz h;omega
theorem gX:∀{l:List Sm} {x:Sm},x∈l->BN x<=gk l
 |e::r,x,h=>by
  simp only [gk];rcases UI.1 h with rfl|h
  ·omega
  ·have:=gX h;omega
theorem s5:∀{l:List Ar} {x:Ar},x∈l->Jn x<=rV l
 |e::r,x,h=>by
  simp only [rV];rcases UI.1 h with rfl|h
  ·omega
  ·have:=s5 h;omega
theorem xN:∀(l:List Ex),l.length<=BZ l
 |[]=>by simp
 |e::r=>by have:=xN r;have:=Jl e;simp only [BZ,UD];omega
theorem lS:∀(l:List Sm),l.length<=gk l
 |[]=>by simp
 |e::r=>by have:=lS r;have:=sZ e;simp only [gk,UD];omega
theorem xO:∀(l:List Ar),l.length<=rV l
 |[]=>by simp
 |e::r=>by have:=xO r;have:=Jm e;simp only [rV,UD];omega
theorem cy {prog:Map ak} {f:Nat} {ts:List TV} {c:TV} (h:VS prog f ts (fun r=>r=c)):VS prog f ts (fun r'=>r'=c/\qz true c):=h.mono fun r hr=>⟨hr,trivial⟩
theorem nP (t:Bool):v_ .not (.b t)=some (.b (!t)):=by cases t<;>rfl
theorem O9 (a b:Int):b7 .geq (.i .i64 a) (.i .i64 b)=some (.b (!wm a b)):=rfl
theorem OZ (a b:Int):b7 .leq (.i .i64 a) (.i .i64 b)=some (.b (!wm b a)):=rfl
theorem OU (a b:Int):b7 .neq (.i .i64 a) (.i .i64 b)=some (.b (!Gb a b)):=rfl
theorem oC (a b:Int):wm a b=decide (a < b):=oz a b
theorem br (a b:Int):Gb a b=decide (a=b):=sy a b
theorem HO (a b:Int):(!decide (a < b))=decide (b<=a):=by
 by_cases h:a < b
 ·have:¬b<=a:=by omega
  simp [h,this]
 ·have:b<=a:=by omega
  simp [h,this]
theorem A7 {t c:Bool}:fR (.b t) (bif t then .b c else iT) (.b false)=some (.b (t&&c)):=by cases t<;>rfl
theorem A6 {t c:Bool}:fR (.b t) (.b true) (bif t then iT else .b c)=some (.b (t||c)):=by cases t<;>rfl
theorem Sy {P:TV->Prop} {k:TV->Prop} (hk:k iT):∃w,gV (.b false) true P w/\k w:=J6 rfl hk
theorem Su {P:TV->Prop} {k:TV->Prop} (hk:k iT):∃w,gV (.b true) false P w/\k w:=J6 rfl hk
theorem Sg {t:Bool} {k:TV->Prop} (hk:k (.b false)):∃w,fR (.b t) (bif t then .b false else iT) (.b false)=some w/\k w:=by
 cases t with
 |true=>exact⟨_,rfl,hk⟩
 |false=>exact⟨_,rfl,hk⟩
theorem Sd {t:Bool} {k:TV->Prop} (hk:k (.b true)):∃w,fR (.b t) (.b true) (bif t then iT else .b true)=some w/\k w:=by
 cases t with
 |true=>exact⟨_,rfl,hk⟩
 |false=>exact⟨_,rfl,hk⟩
theorem Sx {t c:Bool} {P:TV->Prop} {k:TV->Prop} (v:TV) (hp:t=false->c=true->P v) (hk:k (bif t then iT else bif c then v else iT)):∃w,gV (bif t then iT else .b c) true P w/\k w:=by
 cases t with
 |true=>exact J5 hk
 |false=>exact gB (t:=c) v (hp rfl) hk
theorem Sw {t c:Bool} {P:TV->Prop} {k:TV->Prop} (v:TV) (hp:t=false->c=false->P v) (hk:k (bif t then iT else bif c then iT else v)):∃w,gV (bif t then iT else .b c) false P w/\k w:=by
 cases t with
 |true=>exact J5 hk
 |false=>exact gO (t:=c) v (hp rfl) hk
theorem SB {t c:Bool} {P:TV->Prop} {k:TV->Prop} (v:TV) (hp:t=true->c=true->P v) (hk:k (bif t then bif c then v else iT else iT)):∃w,gV (bif t then .b c else iT) true P w/\k w:=by
 cases t with
 |false=>exact J5 hk
 |true=>exact gB (t:=c) v (hp rfl) hk
theorem SA {t c:Bool} {P:TV->Prop} {k:TV->Prop} (v:TV) (hp:t=true->c=false->P v) (hk:k (bif t then bif c then iT else v else iT)):∃w,gV (bif t then .b c else iT) false P w/\k w:=by
 cases t with
 |false=>exact J5 hk
 |true=>exact gO (t:=c) v (hp rfl) hk
theorem jy {a b:Int} (h1:-9223372036854775808<=a - b:=by omega) (h2:a - b < 9223372036854775808:=by omega):b7 .sub (.i .i64 a) (.i .i64 b)=some (.i .i64 (a - b)):=N5 h1 h2
theorem nS {a b:Int} (h1:-9223372036854775808<=a+b:=by omega) (h2:a+b < 9223372036854775808:=by omega):b7 .add (.i .i64 a) (.i .i64 b)=some (.i .i64 (a+b)):=IX h1 h2
theorem wQ {bytes:Nat} {es xs:List TV} (h1:(es.length+xs.length)*bytes<=most:=by simp only [UC,List.length_nil,most];omega) (h2:es.length+xs.length<=most:=by simp only [UC,List.length_nil,most];omega):jT bytes es xs=some (es++xs):=Pn h1 h2
theorem Sz {t:Bool} {P:TV->Prop} {k:TV->Prop} {v:TV} (hk:k (bif t then v else iT)) (hp:t=true->P v:=by intro h;first|(rewrite [h];(try dsimp only [cond_true,cond_false])<;>first|exact jy|exact nS|rfl|exact nP _|exact A7|exact A6|exact⟨rfl,rfl⟩)|rfl|exact⟨rfl,rfl⟩):∃w,gV (.b t) true P w/\k w:=gB v hp hk
theorem Sv {t:Bool} {P:TV->Prop} {k:TV->Prop} {v:TV} (hk:k (bif t then iT else v)) (hp:t=false->P v:=by intro h;first|(rewrite [h];(try dsimp only [cond_true,cond_false])<;>first|exact jy|exact nS|rfl|exact nP _|exact A7|exact A6|exact⟨rfl,rfl⟩)|rfl|exact⟨rfl,rfl⟩):∃w,gV (.b t) false P w/\k w:=gO v hp hk
theorem Mn {t c:Bool} {P:TV->Prop} {k:TV->Prop} {v:TV} (hk:k (bif t then iT else bif c then v else iT)) (hp:t=false->c=true->P v:=by intro h h';first|(rewrite [h];(try dsimp only [cond_true,cond_false])<;>(try rewrite [h'])<;>(try dsimp only [cond_true,cond_false])<;>first|exact jy|exact nS|rfl|exact nP _|exact A7|exact A6|exact⟨rfl,rfl⟩)|rfl|exact⟨rfl,rfl⟩):∃w,gV (bif t then iT else .b c) true P w/\k w:=Sx v hp hk
theorem Mm {t c:Bool} {P:TV->Prop} {k:TV->Prop} {v:TV} (hk:k (bif t then iT else bif c then iT else v)) (hp:t=false->c=false->P v:=by intro h h';first|(rewrite [h];(try dsimp only [cond_true,cond_false])<;>(try rewrite [h'])<;>(try dsimp only [cond_true,cond_false])<;>first|exact jy|exact nS|rfl|exact nP _|exact A7|exact A6|exact⟨rfl,rfl⟩)|rfl|exact⟨rfl,rfl⟩):∃w,gV (bif t then iT else .b c) false P w/\k w:=Sw v hp hk
theorem Mp {t c:Bool} {P:TV->Prop} {k:TV->Prop} {v:TV} (hk:k (bif t then bif c then v else iT else iT)) (hp:t=true->c=true->P v:=by intro h h';first|(rewrite [h];(try dsimp only [cond_true,cond_false])<;>(try rewrite [h'])<;>(try dsimp only [cond_true,cond_false])<;>first|exact jy|exact nS|rfl|exact nP _|exact A7|exact A6|exact⟨rfl,rfl⟩)|rfl|exact⟨rfl,rfl⟩):∃w,gV (bif t then .b c else iT) true P w/\k w:=SB v hp hk
theorem Mo {t c:Bool} {P:TV->Prop} {k:TV->Prop} {v:TV} (hk:k (bif t then bif c then iT else v else iT)) (hp:t=true->c=false->P v:=by intro h h';first|(rewrite [h];(try dsimp only [cond_true,cond_false])<;>(try rewrite [h'])<;>(try dsimp only [cond_true,cond_false])<;>first|exact jy|exact nS|rfl|exact nP _|exact A7|exact A6|exact⟨rfl,rfl⟩)|rfl|exact⟨rfl,rfl⟩):∃w,gV (bif t then .b c else iT) false P w/\k w:=SA v hp hk
theorem Sf {t:Bool}:fR (.b t) (bif t then .b false else iT) (.b false)=some (.b false):=by cases t<;>rfl
theorem Sc {t:Bool}:fR (.b t) (.b true) (bif t then iT else .b true)=some (.b true):=by cases t<;>rfl
theorem Uj {t:Bool} {P:TV->Prop} {v:TV} (hp:t=true->P v:=by intro h;first|(rewrite [h];(try dsimp only [cond_true,cond_false])<;>first|exact jy|exact nS|rfl|exact nP _|exact A7|exact A6|exact⟨rfl,rfl⟩)|rfl|exact⟨rfl,rfl⟩|exact cy (by assumption)|(rw [h];exact cy (by assumption))):gV (.b t) true P (bif t then v else iT):=by
 cases t with
 |true=>exact hp rfl
 |false=>rfl
theorem Ui {t:Bool} {P:TV->Prop} {v:TV} (hp:t=false->P v:=by intro h;first|(rewrite [h];(try dsimp only [cond_true,cond_false])<;>first|exact jy|exact nS|rfl|exact nP _|exact A7|exact A6|exact⟨rfl,rfl⟩)|rfl|exact⟨rfl,rfl⟩|exact cy (by assumption)|(rw [h];exact cy (by assumption))):gV (.b t) false P (bif t then iT else v):=by
 cases t with
 |false=>exact hp rfl
 |true=>rfl
theorem cU {p q:Prop} (hq:q) (hp:p:=by exact rfl):p/\q:=⟨hp,hq⟩
theorem cT {α:Type} {P K:α->Prop} {v:α} (hk:K v) (hp:P v:=by first|exact jy|exact nS|exact rfl|exact nP _|exact⟨rfl,rfl⟩|exact Sf|exact Sc|exact A7|exact A6|exact Uj|exact Ui):∃v,P v/\K v:=⟨v,hp,hk⟩
theorem jl {prog:Map ak} {f:Nat} {ts:List TV} {c:TV} {K:TV->Prop} (hk:K c) (h:VS prog f ts (fun r=>r=c):=by assumption):VS prog f ts (fun r=>qz true r/\K r):=eu h hk
theorem iW {i n:Nat} (h:wm (i:Int) (n:Int)=true):i < n:=by rw [oz] at h;simpa using h
theorem iY {i n:Nat} (hi:i<=n) (h:wm (i:Int) (n:Int)=false):i=n:=by
 rw [oz] at h;have:¬(i:Int) < n:=by simpa using h
 omega
theorem gj {i n:Nat} (hi:i < n) (hn:n<=4611686018427387904):b7 .add (ii i) (ii 1)=some (ii ((i+1:Nat):Int)):=by have:=IX (a:=(i:Int)) (b:=1) (by omega) (by omega);rw [this];rfl
theorem yd (vars:Int):∀l,JK vars l=l.all (EV vars)
 |[]=>rfl
 |e::r=>by simp [JK,yd vars r]
theorem tO (aO:List Ch) (proc vars:Int):∀l,si aO proc vars l=l.all (BP aO proc vars)
 |[]=>rfl
 |e::r=>by simp [si,tO aO proc vars r]
theorem sY {α:Type} {l:List α} {f:α->Bool} {i:Nat} {x:α} (hx:l[i]?=some x) (h:(l.take i).all f=true) (hf:f x=true):(l.take (i+1)).all f=true:=by rw [←zx hx];simp [h,hf]
theorem xd {α:Type} {l:List α} {f:α->Bool} {i:Nat} {x:α} (hx:l[i]?=some x) (hf:f x=false):l.all f=false:=by rw [List.all_eq_false];exact⟨x,Uw hx,by simp [hf]⟩
structure Ll (p:Pg):Prop where
 aO:p.aO.length<=4194304
 procs:p.procs.length<=4194304
 rules:∀c∈p.aO,c.rule.length<=4194304
 rows:∀c∈p.aO,∀r∈c.rule,r.length<=4194304
 body:∀x∈p.procs,gk x.body<=4194304
def O3 (x:Int):List Int->List Int
 |[]=>[x]
 |y::r=>if x<=y then x::y::r else y::O3 x r
def EC:List Int->List Int
 |[]=>[]
 |x::r=>O3 x (EC r)
def oe (x:Pr):Gr:=nQ x.body 0 1 ⟨2,[],[]⟩
def vp (x:Pr):Gr:={oe x with heads:=EC (oe x).heads}
def oW (aO:List Ch) (gs:List Gr) (vars:List Int):TV:=.a [.l (aO.map dg),.l (gs.map Fl),.l (vars.map ii)]
def vS (p:Pg):TV:=
 if Bb p=false then .tp [oW [] [] [],ii 1]
 else if p.procs.all (fun x=>decide ((oe x).c6.length<=400))=false then .tp [oW [] [] [],ii 10]
 else .tp [oW p.aO (p.procs.map vp) (p.procs.map (·.vars)),ii 0]
end Go.Ax.Ft
set_option maxRecDepth 100000
namespace Go.Ax.Ft
open Go Go.Ax Go.Ax.V
mutual
def My:Sm->Nat
 |.mk kind _ _ _ _ _ body els arms=>if kind=1 then 1 else if kind=2 then 2+Ep body+Ep els else if kind=3 then 2+Ep body else if kind=4 then 1 else if kind=5 then Pk arms else if kind=6 then 1 else if kind=7 then 1 else 0
def Ep:List Sm->Nat
 |[]=>1
 |[s]=>My s
 |s::t::r=>My s+Ep (t::r)
def Pk:List Ar->Nat
 |[]=>0
 |.mk _ _ body::r=>1+Ep body+Pk r
end
mutual
def Ni:Sm->Nat
 |.mk kind _ _ _ _ _ body els arms=>if kind=2 then Em body+Em els else if kind=3 then 1+Em body else if kind=5 then Pj arms else 0
def Em:List Sm->Nat
 |[]=>0
 |[s]=>Ni s
 |s::t::r=>Ni s+Em (t::r)
def Pj:List Ar->Nat
 |[]=>0
 |.mk _ _ body::r=>Em body+Pj r
end
theorem pg (g:Gr) (e:Ed):(g.cg e).c6.length=g.c6.length+1:=by simp [Gr.cg]
theorem pe (g:Gr) (e:Ed):(g.cg e).heads=g.heads:=rfl
theorem Bf (g:Gr):g.node.c6=g.c6:=rfl
theorem Be (g:Gr):g.node.heads=g.heads:=rfl
theorem Mj (g:Gr) (a:Int):(g.head a).c6=g.c6:=rfl
theorem Mi (g:Gr) (a:Int):(g.head a).heads.length=g.heads.length+1:=by simp [Gr.head]
mutual
theorem GI:∀(s:Sm) (a b:Int) (g:Gr),(BO s a b g).c6.length=g.c6.length+My s/\(BO s a b g).heads.length=g.heads.length+Ni s
 |.mk kind var chan tag e c body els arms,a,b,g=>by
  rw [BO,My,Ni];split
  ·subst_vars;simp [pg,pe]
  split
  ·subst_vars
   simp only [(nc els _ _ _).1,(nc body _ _ _).1,(nc els _ _ _).2,(nc body _ _ _).2,pg,pe,Bf,Be,if_true];exact⟨by omega,by omega⟩
  split
  ·subst_vars
   simp only [(nc body _ _ _).1,(nc body _ _ _).2,pg,pe,Bf,Be,Mj,Mi,if_true,Int.reduceEq,if_false];exact⟨by omega,by omega⟩
  split
  ·subst_vars;simp [pg,pe]
  split
  ·subst_vars
   simp [(Et chan arms a b g).1,(Et chan arms a b g).2]
  split
  ·subst_vars;simp [pg,pe]
  split
  ·subst_vars;simp [pg,pe]
  ·simp_all
theorem nc:∀(l:List Sm) (a b:Int) (g:Gr),(nQ l a b g).c6.length=g.c6.length+Ep l/\(nQ l a b g).heads.length=g.heads.length+Em l
 |[],a,b,g=>by rw [nQ,Ep,Em];simp [pg,pe]
 |[s],a,b,g=>by rw [nQ,Ep,Em];exact GI s a b g
 |s::t::r,a,b,g=>by rw [nQ,Ep,Em];have h1:=GI s a g.nodes g.node;have h2:=nc (t::r) g.nodes b (BO s a g.nodes g.node);rw [h2.1,h2.2,h1.1,h1.2,Bf,Be];exact⟨by omega,by omega⟩
theorem Et:∀(chan:Int) (l:List Ar) (a b:Int) (g:Gr),(Dm chan l a b g).c6.length=g.c6.length+Pk l/\(Dm chan l a b g).heads.length=g.heads.length+Pj l
 |chan,[],a,b,g=>by rw [Dm,Pk,Pj];exact⟨rfl,rfl⟩
 |chan,.mk tag var body::r,a,b,g=>by rw [Dm,Pk,Pj];have h1:=nc body g.nodes b (g.node.cg ⟨a,g.nodes,4,var,chan,tag,jW,oq⟩);have h2:=Et chan r a b (nQ body g.nodes b (g.node.cg ⟨a,g.nodes,4,var,chan,tag,jW,oq⟩));rw [h2.1,h2.2,h1.1,h1.2,pg,pe,Bf,Be];exact⟨by omega,by omega⟩
end
structure from_ (a:Int) (g g':Gr):Prop where
 le:g.nodes<=g'.nodes
 src:∀e∈g'.c6,e∈g.c6\/e.src=a\/g.nodes<=e.src
theorem from_.cg (a:Int) (g:Gr) {e:Ed} (h:e.src=a):from_ a g (g.cg e):=⟨by simp [Gr.cg],fun e' he=>by
 simp only [Gr.cg,UJ,UK] at he;rcases he with he|rfl
 ·exact .inl he
 ·exact .inr (.inl h)⟩
theorem from_.node (a:Int) (g:Gr):from_ a g g.node:=⟨by simp [Gr.node];omega,fun e he=>.inl he⟩
theorem from_.head (a b:Int) (g:Gr):from_ a g (g.head b):=⟨by simp [Gr.head],fun e he=>.inl he⟩
theorem from_.trans {a:Int} {g1 g2 g3:Gr} (h:from_ a g1 g2) (h':from_ a g2 g3):from_ a g1 g3:=
 ⟨Int.le_trans h.le h'.le,fun e he=>by
  rcases h'.src e he with h1|h1|h1
  ·exact h.src e h1
  ·exact .inr (.inl h1)
  ·exact .inr (.inr (Int.le_trans h.le h1))⟩
theorem from_.new {a n:Int} {g1 g2 g3:Gr} (h:from_ a g1 g2) (hn:g1.nodes<=n) (h':from_ n g2 g3):from_ a g1 g3:=
 ⟨Int.le_trans h.le h'.le,fun e he=>by
  rcases h'.src e he with h1|h1|h1
  ·exact h.src e h1
  ·exact .inr (.inr (by omega))
  ·exact .inr (.inr (Int.le_trans h.le h1))⟩
def ig:Sm:=.mk 7 0 0 0 jW oq [] [] []
theorem Fu (S:Sm):∀n:Nat,Ep (List.replicate n ig++[S])=n+My S
 |0=>by simp [Ep]
 |n+1=>by
  have ih:=Fu S n;have hi:My ig=1:=rfl;cases n with
  |zero=>simp only [List.replicate,List.cons_append,List.nil_append,Ep,hi]
  |succ n=>simp only [List.replicate_succ,List.cons_append,Ep,hi] at ih ⊢;omega
theorem Fs (S:Sm):∀n:Nat,Em (List.replicate n ig++[S])=Ni S
 |0=>by simp [Em]
 |n+1=>by
  have ih:=Fs S n;have hi:Ni ig=0:=rfl;cases n with
  |zero=>simp only [List.replicate,List.cons_append,List.nil_append,Em,hi];omega
  |succ n=>simp only [List.replicate_succ,List.cons_append,Em,hi] at ih ⊢;omega
theorem Ky (n:Nat):Ep (List.replicate n ig)=max n 1:=by
 cases n with
 |zero=>simp [Ep]
 |succ n=>
  have:List.replicate (n+1) ig=List.replicate n ig++[ig]:=by rw [List.replicate_succ',]
  rw [this,Fu];have hi:My ig=1:=rfl;rw [hi];omega
theorem Kx (n:Nat):Em (List.replicate n ig)=0:=by
 cases n with
 |zero=>simp [Em]
 |succ n=>
  have:List.replicate (n+1) ig=List.replicate n ig++[ig]:=by rw [List.replicate_succ',]
  rw [this,Fs];rfl
theorem JJ (aO:List Ch) (proc:Int):BP aO proc 1 ig=true:=by simp [ig,BP,JW,Nf,jW,oq,within]
theorem HI (aO:List Ch) (proc:Int) (n:Nat):si aO proc 1 (List.replicate n ig)=true:=by rw [tO,UM];intro s hs;obtain rfl:=List.eq_of_mem_replicate hs;exact JJ _ _
theorem Lk (n:Nat):gk (List.replicate n ig)=8*n:=by
 induction n with
 |zero=>rfl
 |succ n ih=>rw [List.replicate_succ,gk,ih];have:BN ig=8:=rfl;omega
end Go.Ax.Ft
