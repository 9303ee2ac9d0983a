/- Part 9 of the proof: LbCa, LbCb, LbCc, LbCd. -/
import Derived.Test.YtamgnhdbeecapaaCb5
import Derived.Test.YtamgnhdbeecapaaCb6
import Derived.Test.YtamgnhdbeecapaaCb8

set_option linter.unusedSimpArgs false
set_option linter.unusedVariables false
set_option maxRecDepth 100000
namespace Go.Ax.TryLb
open Go Go.Ax Go.Ax.V Go.Ax.Ft
theorem s77 (a n:Int):VS prog 77 [ii a,ii n] (fun r=>r=.b (wi a n)):=by
 refine vs77 _ _ _ ?_
 unfold W77
 (repeat (first | refine ⟨rfl,?_⟩ | refine ⟨_,sub_o,?_⟩ | refine ⟨_,add_o,?_⟩ | refine ⟨_,rfl,?_⟩ | refine ⟨_,not_t _,?_⟩ | refine ⟨_,⟨rfl,rfl⟩,?_⟩ | refine gFf ?_ | refine gOt ?_ | refine pkF ?_ | refine pkT ?_ | refine pkB ?_ | refine pkO ?_ | refine gBa ?_ | refine gOa ?_))
 refine ⟨trivial,trivial,?_⟩
 simp only [ltA_d,wi,notlt]
theorem s78 (a:Int):VS prog 78 [ii a] (fun r=>r=.b (smallB a)):=by
 refine vs78 _ _ ?_
 unfold W78
 (repeat (first | refine ⟨rfl,?_⟩ | refine ⟨_,sub_o,?_⟩ | refine ⟨_,add_o,?_⟩ | refine ⟨_,rfl,?_⟩ | refine ⟨_,not_t _,?_⟩ | refine ⟨_,⟨rfl,rfl⟩,?_⟩ | refine gFf ?_ | refine gOt ?_ | refine pkF ?_ | refine pkT ?_ | refine pkB ?_ | refine pkO ?_ | refine gBa ?_ | refine gOa ?_))
 refine ⟨trivial,trivial,?_⟩
 simp only [ltA_d,smallB,notlt]
theorem s76 (cs:List Ch) (gs:List Gr) (vs:List Int) (c:Cf):VS prog 76 [encSys cs gs vs,encCf c] (fun r=>r=.b (countsB cs.length gs.length c)):=by
 refine vs76 _ _ _ ?_
 unfold W76
 (repeat (first | refine ⟨rfl,?_⟩ | refine ⟨_,sub_o,?_⟩ | refine ⟨_,add_o,?_⟩ | refine ⟨_,rfl,?_⟩ | refine ⟨_,not_t _,?_⟩ | refine ⟨_,⟨rfl,rfl⟩,?_⟩ | refine gFf ?_ | refine gOt ?_ | refine pkF ?_ | refine pkT ?_ | refine pkB ?_ | refine pkO ?_ | refine gBa ?_ | refine gOa ?_))
 refine ⟨trivial,trivial,?_⟩
 simp only [eqA_d,countsB,List.length_map]
theorem s79 (x:Ch) (q:List (Int×Int)) (hq:q.length≤4194304):VS prog 79 [encCh x,encQ q] (fun r=>r=.b (queueB x q)):=by
 have hml:(q.map encM).length=q.length:=List.length_map _
 refine vs79 _ _ _ ?_
 unfold W79
 refine ⟨rfl,_,rfl,fun n o5 x6 x7 x8 x9=>∃i:Nat,i≤q.length∧n=q.length - i∧o5=encCh x∧x6=encQ q∧x7=.l (q.map encM)∧x8=ii q.length∧x9=ii i∧(q.take i).all (msgB x)=true,⟨_,0,by omega,rfl,rfl,rfl,rfl,by rw [hml],rfl,rfl⟩,?_⟩
 rintro n o5 x6 x7 x8 x9 ⟨i,hi,rfl,rfl,rfl,rfl,rfl,rfl,hall⟩
 refine ⟨_,rfl,condK_by (fun h3=>?_) (fun h3=>?_)⟩
 ·replace h3:=lt_len h3
  obtain ⟨m,hx⟩:∃m,q[i]?=some m:=⟨_,List.getElem?_eq_getElem h3⟩
  have hx':(q.map encM)[i]?=some (encM m):=by rw [List.getElem?_map,hx];rfl
  have h77:=s77 m.1 x.tags
  have h78:=s78 m.2
  refine ⟨_,⟨idx_i hx',rfl⟩,_,rfl,_,rfl,_,rfl,_,rfl,vs_eq h77 ⟨_,not_t _,?_⟩⟩
  have bad:∀t:Bool,msgB x m=false→queueB x q=false:=fun t h=>by
   unfold queueB;rw [not_all hx h];rfl
  cases hw:wi m.1 x.tags with
  |false=>
   refine ⟨rfl,gV_f rfl (gV_f rfl (gV_f rfl ⟨_,rfl,condK_t rfl ⟨trivial,trivial,?_⟩⟩))⟩
   rw [bad true (by unfold msgB;rw [hw];rfl)]
  |true=>
   refine ⟨rfl,gV_t rfl rfl (gV_t rfl (vs_g h78) (gV_t rfl (not_t _) ⟨_,rfl,condK_by (fun h=>?_) (fun h=>?_)⟩))⟩
   ·have h':smallB m.2=false:=by simpa using h
    refine ⟨trivial,trivial,?_⟩
    rw [bad true (by unfold msgB;rw [hw,h'];rfl)]
   ·have h':smallB m.2=true:=by simpa using h
    exact ⟨_,next_i h3 (by omega),_,by omega,i + 1,by omega,rfl,rfl,rfl,rfl,rfl,rfl,take_all hx hall (by unfold msgB;rw [hw,h'];rfl)⟩
 ·obtain rfl:=ge_len hi h3
  rw [List.take_length] at hall
  refine ⟨_,rfl,_,rfl,_,rfl,trivial,trivial,?_⟩
  rw [hml,ltA_d,notlt]
  unfold queueB;rw [hall];rfl
theorem s54 (cs:List Ch) (gs:List Gr) (vs:List Int) (c:Cf) (hv:gs.length≤vs.length) (hc:cs.length≤4194304) (hg:gs.length≤4194304) (hz:szCf c):VS prog 54 [encSys cs gs vs,encCf c] (fun r=>r=.b (likeB cs gs vs c)):=by
 have h76:=s76 cs gs vs c
 have hml:(gs.map encGr).length=gs.length:=List.length_map _
 have hmc:(cs.map encCh).length=cs.length:=List.length_map _
 refine vs54 _ _ _ ?_
 unfold W54
 refine ⟨rfl,rfl,_,rfl,_,rfl,vs_eq h76 ⟨_,not_t _,condK_by (fun h=>?_) (fun h=>?_)⟩⟩
 ·have h':countsB cs.length gs.length c=false:=by simpa using h
  refine ⟨trivial,trivial,?_⟩
  unfold likeB;rw [h'];rfl
 have hcn:countsB cs.length gs.length c=true:=by simpa using h
 obtain ⟨⟨⟨l1,l2⟩,l3⟩,l4⟩:(((c.pos.length:Int)=gs.length∧(c.vars.length:Int)=gs.length)∧(c.queues.length:Int)=cs.length)∧(c.states.length:Int)=cs.length:=by
  simpa [countsB] using hcn
 refine ⟨_,rfl,_,rfl,?_⟩
 refine ⟨fun n o10 o11 x12 x13 x14=>∃i:Nat,i≤gs.length∧n=gs.length - i∧o10=encSys cs gs vs∧o11=encCf c∧x12=.l (gs.map encGr)∧x13=ii gs.length∧x14=ii i∧((List.range gs.length).take i).all (procB gs vs c)=true,⟨_,0,by omega,rfl,rfl,rfl,rfl,by rw [hml],rfl,rfl⟩,?_⟩
 rintro n o10 o11 x12 x13 x14 ⟨i,hi,rfl,rfl,rfl,rfl,rfl,rfl,hall⟩
 refine ⟨_,rfl,condK_by (fun h3=>?_) (fun h3=>?_)⟩
 ·replace h3:=lt_len h3
  have hr:=range_get h3
  have bad:procB gs vs c i=false→likeB cs gs vs c=false:=fun h=>by
   unfold likeB;rw [not_all hr h];simp
  have hx:=get_map (f:=encGr) gr0 h3
  have hp:=get_map (f:=ii) (0:Int) (l:=c.pos) (i:=i) (by omega)
  have hvr:=get_map (f:=encR) ([]:List Int) (l:=c.vars) (i:=i) (by omega)
  have hvs:=get_map (f:=ii) (0:Int) (l:=vs) (i:=i) (by omega)
  have hlen:(c.vars.getD i []).length≤4194304:=hz.var _ (getD_mem (by omega))
  generalize hG:gs.getD i gr0=G at hx
  generalize hP:c.pos.getD i 0=P at hp
  generalize hV:c.vars.getD i []=Vr at hvr hlen
  generalize hN:vs.getD i 0=N at hvs
  have hpb:procB gs vs c i=(wi P G.nodes&&decide ((Vr.length:Int)=N)&&Vr.all smallB):=by unfold procB;rw [hG,hP,hV,hN]
  rw [hpb] at bad
  have h77:=s77 P G.nodes
  have hmv:(Vr.map ii).length=Vr.length:=List.length_map _
  refine ⟨_,⟨idx_i hx,rfl⟩,_,rfl,_,rfl,_,rfl,_,⟨idx_i hp,rfl⟩,_,rfl,_,rfl,vs_eq h77 ⟨_,not_t _,?_⟩⟩
  cases hw:wi P G.nodes with
  |false=>
   refine ⟨rfl,gV_f rfl (gV_f rfl (gV_f rfl ⟨rfl,gV_f rfl (gV_f rfl ⟨rfl,gV_f rfl (gV_f rfl (gV_f rfl ⟨rfl,gV_f rfl (gV_f rfl ⟨_,rfl,condK_t rfl ⟨trivial,trivial,?_⟩⟩)⟩))⟩)⟩))⟩
   rw [bad (by rw [hw];rfl)]
  |true=>
   refine ⟨rfl,gV_t rfl rfl (gV_t rfl rfl (gV_t rfl ⟨idx_i hvr,rfl⟩ ⟨rfl,gV_t rfl rfl (gV_t rfl rfl ⟨rfl,gV_t rfl rfl (gV_t rfl rfl (gV_t rfl ⟨idx_i hvs,rfl⟩ ⟨rfl,gV_t rfl rfl (gV_t rfl (neq_i _ _) ⟨_,rfl,condK_by (fun h=>?_) (fun h=>?_)⟩)⟩))⟩)⟩))⟩
   ·have h':decide ((Vr.length:Int)=N)=false:=by rw [hmv,eqA_d] at h;simpa using h
    refine ⟨trivial,trivial,?_⟩
    rw [bad (by rw [hw,h'];rfl)]
   ·have h':decide ((Vr.length:Int)=N)=true:=by rw [hmv,eqA_d] at h;simpa using h
    refine ⟨_,rfl,_,⟨idx_i hvr,rfl⟩,_,rfl,_,rfl,?_⟩
    refine ⟨fun n o43 o44 x45 x46 x47 x48 x49 x50=>∃j:Nat,j≤Vr.length∧n=Vr.length - j∧o43=encSys cs gs vs∧o44=encCf c∧x45=.l (gs.map encGr)∧x46=ii gs.length∧x47=ii i∧x48=.l (Vr.map ii)∧x49=ii Vr.length∧x50=ii j∧(Vr.take j).all smallB=true,⟨_,0,by omega,rfl,rfl,rfl,rfl,rfl,rfl,rfl,by rw [hmv],rfl,rfl⟩,?_⟩
    rintro n o43 o44 x45 x46 x47 x48 x49 x50 ⟨j,hj,rfl,rfl,rfl,rfl,rfl,rfl,rfl,rfl,rfl,hall2⟩
    refine ⟨_,rfl,condK_by (fun h5=>?_) (fun h5=>?_)⟩
    ·replace h5:=lt_len h5
     obtain ⟨m,hy⟩:∃m,Vr[j]?=some m:=⟨_,List.getElem?_eq_getElem h5⟩
     have hy':(Vr.map ii)[j]?=some (ii m):=by rw [List.getElem?_map,hy];rfl
     refine ⟨_,⟨idx_i hy',rfl⟩,_,rfl,vs_eq (s78 m) ⟨_,not_t _,condK_by (fun h=>?_) (fun h=>?_)⟩⟩
     ·have h6:smallB m=false:=by simpa using h
      refine ⟨trivial,trivial,?_⟩
      rw [bad (by rw [not_all hy h6];simp)]
     ·have h6:smallB m=true:=by simpa using h
      exact ⟨_,next_i h5 (by omega),_,by omega,j + 1,by omega,rfl,rfl,rfl,rfl,rfl,rfl,rfl,rfl,rfl,take_all hy hall2 h6⟩
    ·obtain rfl:=ge_len hj h5
     rw [List.take_length] at hall2
     exact ⟨_,next_i h3 (by omega),_,by omega,i + 1,by omega,rfl,rfl,rfl,rfl,rfl,rfl,take_all hr hall (by rw [hpb,hw,h',hall2];rfl)⟩
 ·obtain rfl:=ge_len hi h3
  rw [range_take] at hall
  refine ⟨_,rfl,_,rfl,?_⟩
  refine ⟨fun n o63 x64 x65 x66=>∃i:Nat,i≤cs.length∧n=cs.length - i∧o63=encCf c∧x64=.l (cs.map encCh)∧x65=ii cs.length∧x66=ii i∧((List.range cs.length).take i).all (chanB cs c)=true,⟨_,0,by omega,rfl,rfl,rfl,by rw [hmc],rfl,rfl⟩,?_⟩
  rintro n o63 x64 x65 x66 ⟨i,hi,rfl,rfl,rfl,rfl,rfl,hall2⟩
  refine ⟨_,rfl,condK_by (fun h3=>?_) (fun h3=>?_)⟩
  ·replace h3:=lt_len h3
   have hr:=range_get h3
   have bad:chanB cs c i=false→likeB cs gs vs c=false:=fun h=>by
    unfold likeB;rw [not_all hr h];simp
   have hx:=get_map (f:=encCh) ch0 h3
   have hq:=get_map (f:=encQ) ([]:List (Int×Int)) (l:=c.queues) (i:=i) (by omega)
   have hs:=get_map (f:=ii) (0:Int) (l:=c.states) (i:=i) (by omega)
   have hlen:(c.queues.getD i []).length≤4194304:=hz.queue _ (getD_mem (by omega))
   generalize hG:cs.getD i ch0=X at hx
   generalize hP:c.queues.getD i []=Qe at hq hlen
   generalize hV:c.states.getD i 0=S at hs
   have hpb:chanB cs c i=(queueB X Qe&&wi S (max (X.rule.length:Int) 1)):=by unfold chanB;rw [hG,hP,hV]
   rw [hpb] at bad
   have h79:=s79 X Qe hlen
   have h77:=s77 S (max (X.rule.length:Int) 1)
   have hmr:(X.rule.map encR).length=X.rule.length:=List.length_map _
   have hmx:mnxT true [ii (X.rule.map encR).length,ii 1]=some (ii (max (X.rule.length:Int) 1)):=by
    rw [hmr]
    show some (TV.i .i64 (bif ltA (X.rule.length:Int) 1 then 1 else (X.rule.length:Int)))=_
    rw [ltA_d]
    by_cases h:(X.rule.length:Int) < 1
    ·rw [decide_eq_true h];simp only [cond_true];congr 2;omega
    ·rw [decide_eq_false h];simp only [cond_false];congr 2;omega
   refine ⟨_,⟨idx_i hx,rfl⟩,_,rfl,_,rfl,_,rfl,_,rfl,_,⟨idx_i hq,rfl⟩,_,rfl,vs_eq h79 ⟨_,not_t _,?_⟩⟩
   cases hw:queueB X Qe with
   |false=>
    refine ⟨rfl,gV_f rfl (gV_f rfl (gV_f rfl ⟨rfl,gV_f rfl ⟨rfl,gV_f rfl (gV_f rfl (gV_f rfl (gV_f rfl (gV_f rfl ⟨_,rfl,condK_t rfl ⟨trivial,trivial,?_⟩⟩))))⟩⟩))⟩
    rw [bad (by rw [hw];rfl)]
   |true=>
    refine ⟨rfl,gV_t rfl rfl (gV_t rfl rfl (gV_t rfl ⟨idx_i hs,rfl⟩ ⟨rfl,gV_t rfl rfl ⟨rfl,gV_t rfl rfl (gV_t rfl rfl (gV_t rfl hmx (gV_t rfl (vs_g h77) (gV_t rfl (not_t _) ⟨_,rfl,condK_by (fun h=>?_) (fun h=>?_)⟩))))⟩⟩))⟩
    ·have h':wi S (max (X.rule.length:Int) 1)=false:=by simpa using h
     refine ⟨trivial,trivial,?_⟩
     rw [bad (by rw [hw,h'];rfl)]
    ·have h':wi S (max (X.rule.length:Int) 1)=true:=by simpa using h
     exact ⟨_,next_i h3 (by omega),_,by omega,i + 1,by omega,rfl,rfl,rfl,rfl,rfl,take_all hr hall2 (by rw [hpb,hw,h'];rfl)⟩
  ·obtain rfl:=ge_len hi h3
   rw [range_take] at hall2
   refine ⟨trivial,trivial,?_⟩
   unfold likeB;rw [hcn,hall,hall2];rfl
end Go.Ax.TryLb

set_option linter.unusedSimpArgs false
set_option linter.unusedVariables false
set_option maxRecDepth 100000
namespace Go.Ax.TryLb
open Go Go.Ax Go.Ax.V Go.Ax.Ft
noncomputable abbrev cfk:FnF:=(interp prog 400).fn
theorem ops_of {nt:Nat} {ops:List AOper} {st:St} (h:(runOps cfk nt ops st).isSome=true):runOps (runFn prog) nt ops st=some ((runOps cfk nt ops st).getD st):=by
 obtain ⟨st',e⟩:=Option.isSome_iff_exists.1 h
 obtain ⟨k0,hk⟩:=runOps_ev (cfk:=fun _=>runFn prog) (interp_run prog 400).1 e
 exact (hk k0 (Nat.le_refl _)).trans (by rw [e];rfl)
noncomputable def go (ops:List AOper) (st:St):St:=(runOps cfk 58 ops st).getD st
noncomputable def S0 (n w:Int):St:=⟨initE [.int .i64 n,.int .i64 w] 0 .leaf,.leaf,0⟩
noncomputable def S1 (n w:Int):St:=go r6_0 (S0 n w)
noncomputable def S2 (n w:Int):St:=go r6_1 (S1 n w)
noncomputable def S3 (n w:Int):St:=go r6_2 (S2 n w)
noncomputable def S4 (n w:Int):St:=go r6_3 (S3 n w)
noncomputable def S5 (n w:Int):St:=go r6_5 (S4 n w)
noncomputable def S6 (n w:Int):St:=go r6_6 (S5 n w)
noncomputable def S7 (n w:Int):St:=go (r6_7.take 2) (S6 n w)
noncomputable def S8 (n w:Int):St:=go r6_8 (S5 n w)
noncomputable def S9 (n w:Int):St:=go (r6_9.take 2) (S8 n w)
theorem g1 (n w:Int):(runOps cfk 58 r6_0 (S0 n w)).isSome=true:=by kernel_rfl
theorem g2 (n w:Int):(runOps cfk 58 r6_1 (S1 n w)).isSome=true:=by kernel_rfl
theorem g3 (n w:Int):(runOps cfk 58 r6_2 (S2 n w)).isSome=true:=by kernel_rfl
theorem g4 (n w:Int):(runOps cfk 58 r6_3 (S3 n w)).isSome=true:=by kernel_rfl
theorem c4 (n w:Int):ev (S4 n w).env (.t 24)=.bool false:=by kernel_rfl
theorem g5 (n w:Int):(runOps cfk 58 r6_5 (S4 n w)).isSome=true:=by kernel_rfl
theorem c5 (n w:Int):ev (S5 n w).env (.t 27)=.bool (eqA (w.tmod 2) 0):=by kernel_rfl
theorem g6 (n w:Int):(runOps cfk 58 r6_6 (S5 n w)).isSome=true:=by kernel_rfl
theorem g7 (n w:Int):(runOps cfk 58 (r6_7.take 2) (S6 n w)).isSome=true:=by kernel_rfl
theorem g8 (n w:Int):(runOps cfk 58 r6_8 (S5 n w)).isSome=true:=by kernel_rfl
theorem g9 (n w:Int):(runOps cfk 58 (r6_9.take 2) (S8 n w)).isSome=true:=by kernel_rfl
noncomputable def A7 (n w:Int):Option (List AV):=mapO (toImm deep (S7 n w).H) [ev (S7 n w).env (.t 34),ev (S7 n w).env (.t 35)]
noncomputable def A9 (n w:Int):Option (List AV):=mapO (toImm deep (S9 n w).H) [ev (S9 n w).env (.t 48),ev (S9 n w).env (.t 49)]
end Go.Ax.TryLb

set_option linter.unusedSimpArgs false
set_option linter.unusedVariables false
set_option maxRecDepth 100000
namespace Go.Ax.TryLb
open Go Go.Ax Go.Ax.V Go.Ax.Ft
abbrev zI (n:Int):AV:=.int .i64 n
def eg:List AV:=[zI 0,zI 1,zI 0,zI 0,zI 0,zI 0,zI 0,zI 0,zI 0,.nils,zI 0,zI 0,zI 0,zI 0,.nils,zI 0,zI 0,zI 0,.nils]
def sA:AV:=.agg [.nils,.imm [zI 2,.imm eg 1 (some 1),.nils] 1 (some 1),.imm [zI 2] 1 (some 1)]
def cB (a x y:Int):AV:=.agg [.imm [zI a] 1 none,.imm [.imm [zI x,zI y] 2 none] 1 none,.imm [] 0 none,.imm [] 0 none]
theorem a7 (n w:Int):A7 n w=some [sA,cB 0 0 n]:=by kernel_rfl
theorem a9 (n w:Int):A9 n w=some [sA,cB n 0 0]:=by kernel_rfl
def gB1:Gr:=⟨2,[⟨0,1,0,0,0,0,no0,noCo⟩],[]⟩
def cF (a x y:Int):Cf:=⟨[a],[[x,y]],[],[]⟩
theorem can_agg {ts:List TV} {bs:List AV} (h:CanL ts bs) (hf:bs.all AV.flat=true):V.Can (.a ts) (.agg bs):=.a ts bs h.1 (fun x hx=>List.all_eq_true.1 hf x hx) h.2
theorem can_cell {t:TV} {x:AV} {c:Option Nat} (h1:t.one=true) (hf:AV.flat x=true) (h:V.Can t x):V.Can (.l [t]) (.imm [x] 1 c):=
 .imm [t] [x] 1 1 c rfl rfl (by decide) (by simpa using hf) (fun j e he=>by
  cases j with
  |zero=>simp at he;subst he;exact .one _ _ h1 h
  |succ j=>simp at he)
theorem can_rowA {ts:List TV} {cs:List AV} {c:Option Nat} (h:CanL ts cs) (h0:0 < cs.length) (hf:cs.all AV.flat=true):V.Can (.l [.a ts]) (.imm cs 1 c):=
 .imm [.a ts] cs 1 cs.length c rfl (by omega) h0 (fun x hx=>List.all_eq_true.1 hf x hx) (fun j e he=>by
  cases j with
  |zero=>simp at he;subst he;simp;exact .a ts cs h.1 h.2
  |succ j=>simp at he)
theorem can_two (x y:Int) (c:Option Nat):V.Can (.l [ii x,ii y]) (.imm [zI x,zI y] 2 c):=
 .imm [ii x,ii y] [zI x,zI y] 2 1 c rfl rfl (by decide) (by simp [AV.flat]) (fun j e he=>by
  match j with
  |0=>simp at he;subst he;exact .one _ _ rfl (.i _ _)
  |1=>simp at he;subst he;exact .one _ _ rfl (.i _ _)
  |j + 2=>simp at he)
theorem can_none (c:Option Nat):V.Can (.l []) (.imm [] 0 c):=.imm [] [] 0 1 c rfl rfl (by decide) (by simp) (fun j e he=>by simp at he)
theorem can_eg:CanL [ii 0,ii 1,ii 0,ii 0,ii 0,ii 0,ii 0,ii 0,ii 0,.l [],ii 0,ii 0,ii 0,ii 0,.l [],ii 0,ii 0,ii 0,.l []] eg:=by
 unfold eg
 refine canL_cons (.i _ _) (canL_cons (.i _ _) (canL_cons (.i _ _) (canL_cons (.i _ _) (canL_cons (.i _ _) (canL_cons (.i _ _) (canL_cons (.i _ _) (canL_cons (.i _ _) (canL_cons (.i _ _) (canL_cons .nil ?_)))))))))
 refine canL_cons (.i _ _) (canL_cons (.i _ _) (canL_cons (.i _ _) (canL_cons (.i _ _) (canL_cons .nil (canL_cons (.i _ _) (canL_cons (.i _ _) (canL_cons (.i _ _) (canL_cons .nil canL_nil))))))))
theorem can_s:V.Can (encSys [] [gB1] [2]) sA:=
 can_agg (canL_cons .nil (canL_cons (can_rowA (canL_cons (.i _ _) (canL_cons (can_rowA can_eg (by decide) rfl) (canL_cons .nil canL_nil))) (by decide) rfl) (canL_cons (can_cell rfl rfl (.i _ _)) canL_nil))) rfl
theorem can_c (a x y:Int):V.Can (encCf (cF a x y)) (cB a x y):=
 can_agg (canL_cons (can_cell rfl rfl (.i _ _)) (canL_cons (can_cell rfl rfl (can_two x y none)) (canL_cons (can_none _) (canL_cons (can_none _) canL_nil)))) rfl
def lk (a x y:Int):Bool:=likeB [] [gB1] [2] (cF a x y)
theorem h54 (a x y:Int):∃H nx,runFn prog 54 [sA,cB a x y] .leaf 0=some (.bool (lk a x y),H,nx):=by
 have hz:szCf (cF a x y):=⟨by simp [cF],by simp [cF],by simp [cF],by simp [cF],by simp [cF],by simp [cF]⟩
 obtain ⟨v,H,nx,h1,b,h2,r,h3,rfl⟩:=s54 [] [gB1] [2] (cF a x y) (by simp) (by simp) (by simp) hz _ (canL_cons can_s (canL_cons (can_c a x y) canL_nil))
 cases h3
 have:=imm_back (d:=29) h2 (fun _ _ _ h=>by cases h) (fun _ h=>by cases h) (fun _ h=>by cases h)
 subst this
 exact ⟨H,nx,h1⟩
theorem doCall_b {cf cf':FnF} {f:Nat} {args:List AV} {H:Heap} {nx:Nat} (h1:allB AV.plain args=true→cf f args .leaf 0=cf' f args .leaf 0)
  (h2:allB AV.plain args=false→∀bs,mapO (toImm deep H) args=some bs→cf f bs .leaf 0=cf' f bs .leaf 0):doCall cf f args .borrow H nx=doCall cf' f args .borrow H nx:=by
 unfold doCall
 cases h:allB AV.plain args with
 |true=>simp only [cond_true];rw [h1 h]
 |false=>
  simp only [cond_false]
  cases hm:mapO (toImm deep H) args with
  |none=>rfl
  |some bs=>simp only;rw [h2 h bs hm]
theorem runOp_call {cf cf':FnF} {nt:Nat} {q:AOper} {st:St} {f:Nat} {args:List Opd} (hk:kind q.op=.call f args .borrow) (hz:q.fz=false)
  (h:doCall cf f (args.map (ev st.env)) .borrow st.H st.nx=doCall cf' f (args.map (ev st.env)) .borrow st.H st.nx):runOp cf nt q st=runOp cf' nt q st:=by
 unfold runOp doFz doOp
 rw [hz,hk]
 simp only [cond_false]
 rw [h]
def kf (t:Bool) (H:Heap) (nx:Nat):FnF:=fun _ _ _ _=>some (.bool t,H,nx)
theorem some_getD {α:Type} {x:Option α} {d:α} (h:x.isSome=true):x=some (x.getD d):=by
 obtain ⟨y,rfl⟩:=Option.isSome_iff_exists.1 h;rfl
noncomputable def T0 (a x y:Int):St:=⟨initE [sA,cB a x y] 0 .leaf,.leaf,0⟩
noncomputable def T1 (a x y:Int):St:=(runOps cfk 12 r22_0 (T0 a x y)).getD (T0 a x y)
noncomputable def T2 (a x y:Int):St:=(runOps cfk 12 (r22_1.take 5) (T1 a x y)).getD (T1 a x y)
def w54:AOper:=⟨some 10,.call 54 [(.t 8),(.t 9)] .borrow,(some (7,true)),false⟩
noncomputable def T3 (a x y:Int) (t:Bool) (H:Heap) (nx:Nat):St:=(runOp (kf t H nx) 12 w54 (T2 a x y)).getD (T2 a x y)
noncomputable def T4 (a x y:Int) (t:Bool) (H:Heap) (nx:Nat):St:=(runOps cfk 12 (r22_1.drop 6) (T3 a x y t H nx)).getD (T3 a x y t H nx)
theorem t1 (a x y:Int):(runOps cfk 12 r22_0 (T0 a x y)).isSome=true:=by kernel_rfl
theorem t2 (a x y:Int):(runOps cfk 12 (r22_1.take 5) (T1 a x y)).isSome=true:=by kernel_rfl
theorem t3 (a x y:Int) (t:Bool) (H:Heap) (nx:Nat):(runOp (kf t H nx) 12 w54 (T2 a x y)).isSome=true:=by kernel_rfl
theorem t4 (a x y:Int) (t:Bool) (H:Heap) (nx:Nat):(runOps cfk 12 (r22_1.drop 6) (T3 a x y t H nx)).isSome=true:=by kernel_rfl
theorem t2a (a x y:Int):[(Opd.t 8),(.t 9)].map (ev (T2 a x y).env)=[sA,cB a x y]:=by kernel_rfl
theorem t4r (a x y:Int) (t:Bool) (H:Heap) (nx:Nat):resA a22.res (T4 a x y t H nx)=some (.bool t,(T4 a x y t H nx).H,(T4 a x y t H nx).nx):=by kernel_rfl
theorem plain_sc (a x y:Int):allB AV.plain [sA,cB a x y]=true:=by kernel_rfl
theorem h22 (a x y:Int):∃H nx,runFn prog 22 [sA,cB a x y] .leaf 0=some (.bool (lk a x y),H,nx):=by
 obtain ⟨H,nx,h⟩:=h54 a x y
 have e:=fn_of_body (prog:=prog) (f:=22) (af:=a22) (by kernel_rfl) (args:=[sA,cB a x y]) rfl (H:=.leaf) (nx:=0) (r:=fun v=>∃H nx,v=(.bool (lk a x y),H,nx)) ?_
 ·obtain ⟨v,h1,H',nx',rfl⟩:=e
  exact ⟨H',nx',h1⟩
 have hb:a22.body=.seq (.reg r22_0) (.seq (.reg r22_1) .ret):=rfl
 rw [hb]
 refine wc_seq (wc_reg ⟨T1 a x y,ops_of (t1 a x y),?_⟩)
 show WC (runFn prog) (runCode prog) 12 (.seq (.reg r22_1) .ret) (T1 a x y) _
 refine wc_seq (wc_reg ⟨T4 a x y (lk a x y) H nx,?_,?_⟩)
 ·have hs:r22_1=r22_1.take 5++(w54 :: r22_1.drop 6):=rfl
  rw [hs,runOps_append,ops_of (t2 a x y)]
  show runOps (runFn prog) 12 (w54 :: r22_1.drop 6) (T2 a x y)=_
  rw [runOps_cons,runOp_call (q:=w54) (cf':=kf (lk a x y) H nx) (f:=54) (args:=[(.t 8),(.t 9)]) rfl rfl (doCall_b (fun _=>by rw [t2a,h];rfl) (fun hp=>by rw [t2a,plain_sc] at hp;cases hp)),some_getD (d:=T2 a x y) (t3 a x y (lk a x y) H nx)]
  show runOps (runFn prog) 12 (r22_1.drop 6) (T3 a x y (lk a x y) H nx)=_
  rw [ops_of (t4 a x y (lk a x y) H nx)]
  rfl
 ·show WC (runFn prog) (runCode prog) 12 .ret _ _
  exact wc_ret ⟨.inr rfl,_,t4r a x y (lk a x y) H nx,_,_,rfl⟩
end Go.Ax.TryLb

set_option linter.unusedSimpArgs false
set_option linter.unusedVariables false
set_option maxRecDepth 100000
namespace Go.Ax.TryLb
open Go Go.Ax Go.Ax.V Go.Ax.Ft
theorem lk_n (n:Int):lk 0 0 n=(!ltA n (-2147483648)&&!ltA 2147483647 n):=by
 rw [ltA_d,ltA_d,notlt,notlt]
 simp [lk,likeB,countsB,procB,cF,gB1,wi,smallB,List.range,List.range.loop]
theorem lk_a (n:Int):lk n 0 0=(eqA n 0||eqA n 1):=by
 rw [eqA_d,eqA_d]
 simp [lk,likeB,countsB,procB,cF,gB1,wi,smallB,List.range,List.range.loop]
 by_cases h0:n=0
 ·subst h0;simp
 ·by_cases h1:n=1
  ·subst h1;simp
  ·simp [h0,h1];omega
def w36:AOper:=o 36 (.call 22 [(.t 34),(.t 35)] .borrow)
noncomputable def X0 (n w:Int) (t:Bool) (H:Heap) (nx:Nat):St:=(runOp (kf t H nx) 58 w36 (S7 n w)).getD (S7 n w)
noncomputable def X1 (n w:Int) (t:Bool) (H:Heap) (nx:Nat):St:=(runOps cfk 58 ((r6_7.drop 3).take 3) (X0 n w t H nx)).getD (X0 n w t H nx)
noncomputable def X2 (n w:Int) (t:Bool) (H:Heap) (nx:Nat) (b:Bool):St:=⟨((X1 n w t H nx).env.put (some (.bool b)) 38).put (some (.bool b)) 39,(X1 n w t H nx).H,(X1 n w t H nx).nx⟩
noncomputable def X3 (n w:Int) (t:Bool) (H:Heap) (nx:Nat) (b:Bool):St:=(runOps cfk 58 (r6_7.drop 6) (X2 n w t H nx b)).getD (X2 n w t H nx b)
theorem x0 (n w:Int) (t:Bool) (H:Heap) (nx:Nat):(runOp (kf t H nx) 58 w36 (S7 n w)).isSome=true:=by kernel_rfl
theorem x1 (n w:Int) (t:Bool) (H:Heap) (nx:Nat):(runOps cfk 58 ((r6_7.drop 3).take 3) (X0 n w t H nx)).isSome=true:=by kernel_rfl
theorem x2 (n w:Int) (t:Bool) (H:Heap) (nx:Nat):X1 n w t H nx=X2 n w t H nx (!ltA n (-2147483648)):=by kernel_rfl
theorem x3 (n w:Int) (t:Bool) (H:Heap) (nx:Nat):∀b,(runOps cfk 58 (r6_7.drop 6) (X2 n w t H nx b)).isSome=true
 |true=>by kernel_rfl
 |false=>by kernel_rfl
theorem x3t (n w:Int) (t:Bool) (H:Heap) (nx:Nat):(resA a6.res (X3 n w t H nx true)).map (·.1)=some (.bool (t == !ltA 2147483647 n)):=by kernel_rfl
theorem x3f (n w:Int) (t:Bool) (H:Heap) (nx:Nat):(resA a6.res (X3 n w t H nx false)).map (·.1)=some (.bool (t == false)):=by kernel_rfl
theorem np7 (n w:Int):allB AV.plain ([(Opd.t 34),(.t 35)].map (ev (S7 n w).env))=false:=by kernel_rfl
def w50:AOper:=o 50 (.call 22 [(.t 48),(.t 49)] .borrow)
noncomputable def Y0 (n w:Int) (t:Bool) (H:Heap) (nx:Nat):St:=(runOp (kf t H nx) 58 w50 (S9 n w)).getD (S9 n w)
noncomputable def Y1 (n w:Int) (t:Bool) (H:Heap) (nx:Nat):St:=(runOps cfk 58 ((r6_9.drop 3).take 3) (Y0 n w t H nx)).getD (Y0 n w t H nx)
noncomputable def Y2 (n w:Int) (t:Bool) (H:Heap) (nx:Nat) (b:Bool):St:=⟨((Y1 n w t H nx).env.put (some (.bool b)) 52).put (some (.bool b)) 53,(Y1 n w t H nx).H,(Y1 n w t H nx).nx⟩
noncomputable def Y3 (n w:Int) (t:Bool) (H:Heap) (nx:Nat) (b:Bool):St:=(runOps cfk 58 (r6_9.drop 6) (Y2 n w t H nx b)).getD (Y2 n w t H nx b)
theorem y0 (n w:Int) (t:Bool) (H:Heap) (nx:Nat):(runOp (kf t H nx) 58 w50 (S9 n w)).isSome=true:=by kernel_rfl
theorem y1 (n w:Int) (t:Bool) (H:Heap) (nx:Nat):(runOps cfk 58 ((r6_9.drop 3).take 3) (Y0 n w t H nx)).isSome=true:=by kernel_rfl
theorem y2 (n w:Int) (t:Bool) (H:Heap) (nx:Nat):Y1 n w t H nx=Y2 n w t H nx (eqA n 0):=by kernel_rfl
theorem y3 (n w:Int) (t:Bool) (H:Heap) (nx:Nat):∀b,(runOps cfk 58 (r6_9.drop 6) (Y2 n w t H nx b)).isSome=true
 |true=>by kernel_rfl
 |false=>by kernel_rfl
theorem y3t (n w:Int) (t:Bool) (H:Heap) (nx:Nat):(resA a6.res (Y3 n w t H nx true)).map (·.1)=some (.bool (t == true)):=by kernel_rfl
theorem y3f (n w:Int) (t:Bool) (H:Heap) (nx:Nat):(resA a6.res (Y3 n w t H nx false)).map (·.1)=some (.bool (t == eqA n 1)):=by kernel_rfl
theorem np9 (n w:Int):allB AV.plain ([(Opd.t 48),(.t 49)].map (ev (S9 n w).env))=false:=by kernel_rfl
theorem res_of {st:St} {v:AV} (h:(resA a6.res st).map (·.1)=some v):∃r,resA a6.res st=some r∧r.1=v:=by
 cases e:resA a6.res st with
 |none=>rw [e] at h;cases h
 |some r=>rw [e] at h;exact ⟨r,rfl,by simpa using h⟩
theorem h6 (n w:Int):∃H nx,runFn prog 6 [.int .i64 n,.int .i64 w] .leaf 0=some (.bool true,H,nx):=by
 have e:=fn_of_body (prog:=prog) (f:=6) (af:=a6) (by kernel_rfl) (args:=[.int .i64 n,.int .i64 w]) rfl (H:=.leaf) (nx:=0) (r:=fun v=>v.1=.bool true) ?_
 ·obtain ⟨⟨v,H',nx'⟩,h1,h2⟩:=e
  exact ⟨H',nx',by rw [h1];exact congrArg (fun x=>some (x,H',nx')) h2⟩
 have hb:a6.body=c6:=rfl
 rw [hb]
 unfold c6
 refine wc_seq (wc_reg ⟨S1 n w,ops_of (g1 n w),?_⟩)
 show WC (runFn prog) (runCode prog) 58 _ (S1 n w) _
 refine wc_seq (wc_reg ⟨S2 n w,ops_of (g2 n w),?_⟩)
 show WC (runFn prog) (runCode prog) 58 _ (S2 n w) _
 refine wc_seq (wc_reg ⟨S3 n w,ops_of (g3 n w),?_⟩)
 show WC (runFn prog) (runCode prog) 58 _ (S3 n w) _
 refine wc_seq (wc_seq (wc_reg ⟨S4 n w,ops_of (g4 n w),?_⟩))
 show WC (runFn prog) (runCode prog) 58 _ (S4 n w) _
 refine wc_cond_false (c4 n w) (wc_skip ?_)
 show WC (runFn prog) (runCode prog) 58 _ (S4 n w) _
 refine wc_seq (wc_seq (wc_reg ⟨S5 n w,ops_of (g5 n w),?_⟩))
 show WC (runFn prog) (runCode prog) 58 _ (S5 n w) _
 refine wc_cond (c5 n w) (fun _=>?_) (fun _=>?_)
 ·refine wc_seq (wc_reg ⟨S6 n w,ops_of (g6 n w),?_⟩)
  show WC (runFn prog) (runCode prog) 58 _ (S6 n w) _
  obtain ⟨H,nx,h⟩:=h22 0 0 n
  refine wc_seq (wc_reg ⟨X3 n w (lk 0 0 n) H nx (!ltA n (-2147483648)),?_,?_⟩)
  ·have hs:r6_7=r6_7.take 2++(w36 :: ((r6_7.drop 3).take 3++r6_7.drop 6)):=rfl
   rw [hs,runOps_append,ops_of (g7 n w)]
   show runOps (runFn prog) 58 (w36 :: ((r6_7.drop 3).take 3++r6_7.drop 6)) (S7 n w)=_
   rw [runOps_cons,runOp_call (q:=w36) (cf':=kf (lk 0 0 n) H nx) (f:=22) (args:=[(.t 34),(.t 35)]) rfl rfl
    (doCall_b (fun hp=>by rw [np7] at hp;cases hp) (fun _ bs hbs=>by
     have e:some bs=some [sA,cB 0 0 n]:=hbs.symm.trans (a7 n w)
     cases e
     rw [h];rfl)),some_getD (d:=S7 n w) (x0 n w (lk 0 0 n) H nx)]
   show runOps (runFn prog) 58 ((r6_7.drop 3).take 3++r6_7.drop 6) (X0 n w (lk 0 0 n) H nx)=_
   rw [runOps_append,ops_of (x1 n w (lk 0 0 n) H nx)]
   show runOps (runFn prog) 58 (r6_7.drop 6) (X1 n w (lk 0 0 n) H nx)=_
   rw [x2,ops_of (x3 n w (lk 0 0 n) H nx _)]
   rfl
  ·show WC (runFn prog) (runCode prog) 58 .ret _ _
   have hr:∃r,resA a6.res (X3 n w (lk 0 0 n) H nx (!ltA n (-2147483648)))=some r∧r.1=.bool true:=by
    have hl:=lk_n n
    cases hb2:(!ltA n (-2147483648)) with
    |true=>
     rw [hb2] at hl
     obtain ⟨r,h1,h2⟩:=res_of (x3t n w (lk 0 0 n) H nx)
     exact ⟨r,h1,by rw [h2,hl];cases ltA 2147483647 n <;> rfl⟩
    |false=>
     rw [hb2] at hl
     obtain ⟨r,h1,h2⟩:=res_of (x3f n w (lk 0 0 n) H nx)
     exact ⟨r,h1,by rw [h2,hl];rfl⟩
   obtain ⟨r,h1,h2⟩:=hr
   exact wc_ret ⟨.inr rfl,r,h1,h2⟩
 ·refine wc_skip ?_
  show WC (runFn prog) (runCode prog) 58 _ (S5 n w) _
  refine wc_seq (wc_reg ⟨S8 n w,ops_of (g8 n w),?_⟩)
  show WC (runFn prog) (runCode prog) 58 _ (S8 n w) _
  obtain ⟨H,nx,h⟩:=h22 n 0 0
  refine wc_seq (wc_reg ⟨Y3 n w (lk n 0 0) H nx (eqA n 0),?_,?_⟩)
  ·have hs:r6_9=r6_9.take 2++(w50 :: ((r6_9.drop 3).take 3++r6_9.drop 6)):=rfl
   rw [hs,runOps_append,ops_of (g9 n w)]
   show runOps (runFn prog) 58 (w50 :: ((r6_9.drop 3).take 3++r6_9.drop 6)) (S9 n w)=_
   rw [runOps_cons,runOp_call (q:=w50) (cf':=kf (lk n 0 0) H nx) (f:=22) (args:=[(.t 48),(.t 49)]) rfl rfl
    (doCall_b (fun hp=>by rw [np9] at hp;cases hp) (fun _ bs hbs=>by
     have e:some bs=some [sA,cB n 0 0]:=hbs.symm.trans (a9 n w)
     cases e
     rw [h];rfl)),some_getD (d:=S9 n w) (y0 n w (lk n 0 0) H nx)]
   show runOps (runFn prog) 58 ((r6_9.drop 3).take 3++r6_9.drop 6) (Y0 n w (lk n 0 0) H nx)=_
   rw [runOps_append,ops_of (y1 n w (lk n 0 0) H nx)]
   show runOps (runFn prog) 58 (r6_9.drop 6) (Y1 n w (lk n 0 0) H nx)=_
   rw [y2,ops_of (y3 n w (lk n 0 0) H nx _)]
   rfl
  ·show WC (runFn prog) (runCode prog) 58 .ret _ _
   have hr:∃r,resA a6.res (Y3 n w (lk n 0 0) H nx (eqA n 0))=some r∧r.1=.bool true:=by
    have hl:=lk_a n
    cases hb2:eqA n 0 with
    |true=>
     rw [hb2] at hl
     obtain ⟨r,h1,h2⟩:=res_of (y3t n w (lk n 0 0) H nx)
     exact ⟨r,h1,by rw [h2,hl];rfl⟩
    |false=>
     rw [hb2] at hl
     obtain ⟨r,h1,h2⟩:=res_of (y3f n w (lk n 0 0) H nx)
     exact ⟨r,h1,by rw [h2,hl];cases eqA n 1 <;> rfl⟩
   obtain ⟨r,h1,h2⟩:=hr
   exact wc_ret ⟨.inr rfl,r,h1,h2⟩
theorem law (n w:Int):isTrue (runFn prog 6 [.int .i64 n,.int .i64 w] .leaf 0)=true:=by
 obtain ⟨H,nx,h⟩:=h6 n w
 rw [h];rfl
end Go.Ax.TryLb
