/- Part 13 of the proof: LqQd, LqCa, LqQe, LqQf. -/
import Derived.Test.YtamgnhdbeecapaaCq7
import Derived.Test.YtamgnhdbeecapaaCq9
import Derived.Test.YtamgnhdbeecapaaCq11
import Derived.Test.YtamgnhdbeecapaaCq12
set_option linter.unusedSimpArgs false
set_option linter.unusedVariables false
noncomputable section
set_option maxRecDepth 100000
namespace Go.Ax.dR
open Go Go.Ax Go.Ax.V
def FX:AV×ay×Nat:=(.jj,.leaf,0)
def Lk (args:List AV):eF:=Na (jW prog 1000 98 FX Ik args .leaf 0)
def EK (q:eF):eF:=Na (jW prog 1000 133 FX Ij q.args q.H q.nx)
def Ll (q:eF):eF:=Na (jW prog 1000 35 FX zX q.args q.H q.nx)
def Nx (q:eF) (ans:AV×ay×Nat):AV×ay×Nat:=(iQ prog 1000 35 ans zX q.args q.H q.nx).getD FX
def PO (q:eF) (ans:AV×ay×Nat):AV×ay×Nat:=(iQ prog 1000 133 ans Ij q.args q.H q.nx).getD FX
def Ox (args:List AV) (ans:AV×ay×Nat):AV×ay×Nat:=(iQ prog 1000 98 ans Ik args .leaf 0).getD FX
abbrev aE (z:Int) (H:ay) (m:Nat):AV×ay×Nat:=(.dM [zI z,zI 0],H,m)
structure Seen where
 LY:eF
 f133:Nat
 f98:Nat
 M9:Nat
 PF:Nat
 Nb:List eF
 Nc:List eF
 PI:List eF
 LV:Bool
 OB:Bool
 OE:Bool
 t73:Option AV
def seen (args:List AV) (wV kq:eF) (ans vi r98:AV×ay×Nat):Seen:=
 ⟨Ll kq,kq.f,wV.f,kq.args.length,wV.args.length,jW prog 1000 35 ans zX kq.args kq.H kq.nx,jW prog 1000 133 vi Ij wV.args wV.H wV.nx,jW prog 1000 98 r98 Ik args .leaf 0,
  (iQ prog 1000 35 ans zX kq.args kq.H kq.nx).isSome,(iQ prog 1000 133 vi Ij wV.args wV.H wV.nx).isSome,(iQ prog 1000 98 r98 Ik args .leaf 0).isSome,aP deep (Ox args r98).2.1 (Ox args r98).1⟩
def Gi (args:List AV) (z:Int) (H:ay) (m:Nat):Seen:=
 (fun wV=>(fun kq=>(fun vi=>seen args wV kq (aE z H m) vi (PO wV vi)) (Nx kq (aE z H m))) (EK wV)) (Lk args)
def Ge (args:List AV) (a:Int) (to:AV):Seen:=(fun wV=>(fun kq=>⟨⟨35,[.agg GJ,.b6 [zI a] 1 none],.leaf,0⟩,133,98,1,1,[Ll kq],[kq],[wV],true,true,true,some (.dM [to,dA true])⟩) (EK wV)) (Lk args)
theorem F3:∀(e:Nat) (q:List Int),e<=2->q.length<=15->∀(m:Nat) (y a b n z:Int) (H:ay) (h:Nat),Gi [sA (sk (Nat.succ q.length) m),cA e 3 y a b q,pA 0 n] z H h=Ge [sA (sk (Nat.succ q.length) m),cA e 3 y a b q,pA 0 n] a (cA e 0 y a b (q++[z]))
 |0,[],_,_=>fun m y a b n z H h=>by kernel_rfl
 |1,[],_,_=>fun m y a b n z H h=>by kernel_rfl
 |2,[],_,_=>fun m y a b n z H h=>by kernel_rfl
 |e+3,[],h,_=>by omega
 |e,[v0],_,_=>fun m y a b n z H h=>by kernel_rfl
 |e,[v0,v1],_,_=>fun m y a b n z H h=>by kernel_rfl
 |e,[v0,v1,v2],_,_=>fun m y a b n z H h=>by kernel_rfl
 |e,[v0,v1,v2,v3],_,_=>fun m y a b n z H h=>by kernel_rfl
 |e,[v0,v1,v2,v3,v4],_,_=>fun m y a b n z H h=>by kernel_rfl
 |e,[v0,v1,v2,v3,v4,v5],_,_=>fun m y a b n z H h=>by kernel_rfl
 |e,[v0,v1,v2,v3,v4,v5,v6],_,_=>fun m y a b n z H h=>by kernel_rfl
 |e,[v0,v1,v2,v3,v4,v5,v6,v7],_,_=>fun m y a b n z H h=>by kernel_rfl
 |e,[v0,v1,v2,v3,v4,v5,v6,v7,v8],_,_=>fun m y a b n z H h=>by kernel_rfl
 |e,[v0,v1,v2,v3,v4,v5,v6,v7,v8,v9],_,_=>fun m y a b n z H h=>by kernel_rfl
 |e,[v0,v1,v2,v3,v4,v5,v6,v7,v8,v9,v10],_,_=>fun m y a b n z H h=>by kernel_rfl
 |e,[v0,v1,v2,v3,v4,v5,v6,v7,v8,v9,v10,v11],_,_=>fun m y a b n z H h=>by kernel_rfl
 |e,[v0,v1,v2,v3,v4,v5,v6,v7,v8,v9,v10,v11,v12],_,_=>fun m y a b n z H h=>by kernel_rfl
 |e,[v0,v1,v2,v3,v4,v5,v6,v7,v8,v9,v10,v11,v12,v13],_,_=>fun m y a b n z H h=>by kernel_rfl
 |e,[v0,v1,v2,v3,v4,v5,v6,v7,v8,v9,v10,v11,v12,v13,v14],_,_=>fun m y a b n z H h=>by kernel_rfl
 |e,_::_::_::_::_::_::_::_::_::_::_::_::_::_::_::_::q,_,h=>by simp at h<;>omega
end Go.Ax.dR
set_option maxRecDepth 100000
namespace Go.Ax.dR
open Go Go.Ax Go.Ax.V Go.Ax.Ft
theorem LS (a n:Int):VS prog 77 [ii a,ii n] (fun r=>r=.b (wi a n)):=by
 refine LB _ _ _ ?_;unfold Ol
 (repeat (first|refine GV ?_|refine GU ?_))
 refine⟨trivial,trivial,?_⟩;simp only [Ao,wi,Dz]
theorem NM (a:Int):VS prog 78 [ii a] (fun r=>r=.b (fE a)):=by
 refine LA _ _ ?_;unfold Ok
 (repeat (first|refine GV ?_|refine GU ?_))
 refine⟨trivial,trivial,?_⟩;simp only [Ao,fE,Dz]
theorem OD (cs:List Ch) (gs:List Gr) (vs:List Int) (c:Cf):VS prog 76 [mT cs gs vs,sJ c] (fun r=>r=.b (iO cs.length gs.length c)):=by
 refine LC _ _ _ ?_;unfold Om
 (repeat (first|refine GV ?_|refine GU ?_))
 refine⟨trivial,trivial,?_⟩;simp only [D_,iO,P6]
theorem OC (x:Ch) (q:List (Int×Int)) (hq:q.length<=4194304):VS prog 79 [uM x,zG q] (fun r=>r=.b (iU x q)):=by
 have hml:(q.map BF).length=q.length:=P6 _;refine Lz _ _ _ ?_;unfold Oj;refine⟨rfl,_,rfl,fun n o5 x6 x7 x8 x9=>∃i:Nat,i<=q.length/\n=q.length - i/\o5=uM x/\x6=zG q/\x7=.l (q.map BF)/\x8=ii q.length/\x9=ii i/\(q.take i).all (xw x)=true,⟨_,0,by omega,rfl,rfl,rfl,rfl,by rw [hml],rfl,rfl⟩,?_⟩;rintro n o5 x6 x7 x8 x9 ⟨i,hi,rfl,rfl,rfl,rfl,rfl,rfl,hall⟩;refine⟨_,rfl,cK (fun h3=>?_) (fun h3=>?_)⟩
 ·replace h3:=vu h3;obtain⟨m,hx⟩:∃m,q[i]?=some m:=⟨_,PU h3⟩;have hx':(q.map BF)[i]?=some (BF m):=by rw [PY,hx];rfl
  have h77:=LS m.1 x.tags;have h78:=NM m.2;refine⟨_,⟨jm hx',rfl⟩,_,rfl,_,rfl,_,rfl,_,rfl,l6 h77 ⟨_,l_ _,?_⟩⟩;have bad:∀t:Bool,xw x m=false->iU x q=false:=fun t h=>by unfold iU;rw [ql hx h];rfl
  cases hw:wi m.1 x.tags with
  |false=>refine⟨rfl,bg rfl (bg rfl (bg rfl ⟨_,rfl,nY rfl ⟨trivial,trivial,?_⟩⟩))⟩;rw [bad true (by unfold xw;rw [hw];rfl)]
  |true=>
   refine⟨rfl,aR rfl rfl (aR rfl (A9 h78) (aR rfl (l_ _) ⟨_,rfl,cK (fun h=>?_) (fun h=>?_)⟩))⟩
   ·have h':fE m.2=false:=by simpa using h
    refine⟨trivial,trivial,?_⟩;rw [bad true (by unfold xw;rw [hw,h'];rfl)]
   ·have h':fE m.2=true:=by simpa using h
    exact⟨_,vn h3 (by omega),_,by omega,i+1,by omega,rfl,rfl,rfl,rfl,rfl,rfl,m8 hx hall (by unfold xw;rw [hw,h'];rfl)⟩
 ·obtain rfl:=vF hi h3;rw [List.take_length] at hall;refine⟨_,rfl,_,rfl,_,rfl,trivial,trivial,?_⟩;rw [hml,Ao,Dz];unfold iU;rw [hall];rfl
theorem OG (cs:List Ch) (gs:List Gr) (vs:List Int) (c:Cf) (hv:gs.length<=vs.length) (hc:cs.length<=4194304) (hg:gs.length<=4194304) (hz:GS c):VS prog 54 [mT cs gs vs,sJ c] (fun r=>r=.b (kI cs gs vs c)):=by
 have h76:=OD cs gs vs c;have hml:(gs.map xZ).length=gs.length:=P6 _;have hmc:(cs.map uM).length=cs.length:=P6 _;refine LF _ _ _ ?_;unfold Oo;refine⟨rfl,rfl,_,rfl,_,rfl,l6 h76 ⟨_,l_ _,cK (fun h=>?_) (fun h=>?_)⟩⟩
 ·have h':iO cs.length gs.length c=false:=by simpa using h
  refine⟨trivial,trivial,?_⟩;unfold kI;rw [h'];rfl
 have hcn:iO cs.length gs.length c=true:=by simpa using h
 obtain⟨⟨⟨l1,l2⟩,l3⟩,l4⟩:(((c.pos.length:Int)=gs.length/\(c.vars.length:Int)=gs.length)/\(c.iT.length:Int)=cs.length)/\(c.states.length:Int)=cs.length:=by simpa [iO] using hcn
 refine⟨_,rfl,_,rfl,?_⟩;refine⟨fun n o10 o11 x12 x13 x14=>∃i:Nat,i<=gs.length/\n=gs.length - i/\o10=mT cs gs vs/\o11=sJ c/\x12=.l (gs.map xZ)/\x13=ii gs.length/\x14=ii i/\((List.range gs.length).take i).all (rE gs vs c)=true,⟨_,0,by omega,rfl,rfl,rfl,rfl,by rw [hml],rfl,rfl⟩,?_⟩;rintro n o10 o11 x12 x13 x14 ⟨i,hi,rfl,rfl,rfl,rfl,rfl,rfl,hall⟩;refine⟨_,rfl,cK (fun h3=>?_) (fun h3=>?_)⟩
 ·replace h3:=vu h3;have hr:=tS h3;have bad:rE gs vs c i=false->kI cs gs vs c=false:=fun h=>by unfold kI;rw [ql hr h];simp
  have hx:=get_map (f:=xZ) Nd h3;have hp:=get_map (f:=ii) (0:Int) (l:=c.pos) (i:=i) (by omega);have hvr:=get_map (f:=BE) ([]:List Int) (l:=c.vars) (i:=i) (by omega);have hvs:=get_map (f:=ii) (0:Int) (l:=vs) (i:=i) (by omega);have hlen:(c.vars.getD i []).length<=4194304:=hz.var _ (xR (by omega));generalize hG:gs.getD i Nd=G at hx;generalize hP:c.pos.getD i 0=P at hp;generalize hV:c.vars.getD i []=Vr at hvr hlen;generalize hN:vs.getD i 0=N at hvs;have hpb:rE gs vs c i=(wi P G.nodes&&decide ((Vr.length:Int)=N)&&Vr.all fE):=by unfold rE;rw [hG,hP,hV,hN]
  rw [hpb] at bad;have h77:=LS P G.nodes;have hmv:(Vr.map ii).length=Vr.length:=P6 _;refine⟨_,⟨jm hx,rfl⟩,_,rfl,_,rfl,_,rfl,_,⟨jm hp,rfl⟩,_,rfl,_,rfl,l6 h77 ⟨_,l_ _,?_⟩⟩;cases hw:wi P G.nodes with
  |false=>refine⟨rfl,bg rfl (bg rfl (bg rfl ⟨rfl,bg rfl (bg rfl ⟨rfl,bg rfl (bg rfl (bg rfl ⟨rfl,bg rfl (bg rfl ⟨_,rfl,nY rfl ⟨trivial,trivial,?_⟩⟩)⟩))⟩)⟩))⟩;rw [bad (by rw [hw];rfl)]
  |true=>
   refine⟨rfl,aR rfl rfl (aR rfl rfl (aR rfl ⟨jm hvr,rfl⟩ ⟨rfl,aR rfl rfl (aR rfl rfl ⟨rfl,aR rfl rfl (aR rfl rfl (aR rfl ⟨jm hvs,rfl⟩ ⟨rfl,aR rfl rfl (aR rfl (JM _ _) ⟨_,rfl,cK (fun h=>?_) (fun h=>?_)⟩)⟩))⟩)⟩))⟩
   ·have h':decide ((Vr.length:Int)=N)=false:=by rw [hmv,D_] at h;simpa using h
    refine⟨trivial,trivial,?_⟩;rw [bad (by rw [hw,h'];rfl)]
   ·have h':decide ((Vr.length:Int)=N)=true:=by rw [hmv,D_] at h;simpa using h
    refine⟨_,rfl,_,⟨jm hvr,rfl⟩,_,rfl,_,rfl,?_⟩;refine⟨fun n o43 o44 x45 x46 x47 x48 x49 x50=>∃j:Nat,j<=Vr.length/\n=Vr.length - j/\o43=mT cs gs vs/\o44=sJ c/\x45=.l (gs.map xZ)/\x46=ii gs.length/\x47=ii i/\x48=.l (Vr.map ii)/\x49=ii Vr.length/\x50=ii j/\(Vr.take j).all fE=true,⟨_,0,by omega,rfl,rfl,rfl,rfl,rfl,rfl,rfl,by rw [hmv],rfl,rfl⟩,?_⟩;rintro n o43 o44 x45 x46 x47 x48 x49 x50 ⟨j,hj,rfl,rfl,rfl,rfl,rfl,rfl,rfl,rfl,rfl,qxv⟩;refine⟨_,rfl,cK (fun h5=>?_) (fun h5=>?_)⟩
    ·replace h5:=vu h5;obtain⟨m,hy⟩:∃m,Vr[j]?=some m:=⟨_,PU h5⟩;have hy':(Vr.map ii)[j]?=some (ii m):=by rw [PY,hy];rfl
     refine⟨_,⟨jm hy',rfl⟩,_,rfl,l6 (NM m) ⟨_,l_ _,cK (fun h=>?_) (fun h=>?_)⟩⟩
     ·have h6:fE m=false:=by simpa using h
      refine⟨trivial,trivial,?_⟩;rw [bad (by rw [ql hy h6];simp)]
     ·have h6:fE m=true:=by simpa using h
      exact⟨_,vn h5 (by omega),_,by omega,j+1,by omega,rfl,rfl,rfl,rfl,rfl,rfl,rfl,rfl,rfl,m8 hy qxv h6⟩
    ·obtain rfl:=vF hj h5;rw [List.take_length] at qxv;exact⟨_,vn h3 (by omega),_,by omega,i+1,by omega,rfl,rfl,rfl,rfl,rfl,rfl,m8 hr hall (by rw [hpb,hw,h',qxv];rfl)⟩
 ·obtain rfl:=vF hi h3;rw [ry] at hall;refine⟨_,rfl,_,rfl,?_⟩;refine⟨fun n o63 x64 x65 x66=>∃i:Nat,i<=cs.length/\n=cs.length - i/\o63=sJ c/\x64=.l (cs.map uM)/\x65=ii cs.length/\x66=ii i/\((List.range cs.length).take i).all (sV cs c)=true,⟨_,0,by omega,rfl,rfl,rfl,by rw [hmc],rfl,rfl⟩,?_⟩;rintro n o63 x64 x65 x66 ⟨i,hi,rfl,rfl,rfl,rfl,rfl,qxv⟩;refine⟨_,rfl,cK (fun h3=>?_) (fun h3=>?_)⟩
  ·replace h3:=vu h3;have hr:=tS h3;have bad:sV cs c i=false->kI cs gs vs c=false:=fun h=>by unfold kI;rw [ql hr h];simp
   have hx:=get_map (f:=uM) Lw h3;have hq:=get_map (f:=zG) ([]:List (Int×Int)) (l:=c.iT) (i:=i) (by omega);have hs:=get_map (f:=ii) (0:Int) (l:=c.states) (i:=i) (by omega);have hlen:(c.iT.getD i []).length<=4194304:=hz.queue _ (xR (by omega));generalize hG:cs.getD i Lw=X at hx;generalize hP:c.iT.getD i []=Qe at hq hlen;generalize hV:c.states.getD i 0=S at hs;have hpb:sV cs c i=(iU X Qe&&wi S (max (X.rule.length:Int) 1)):=by unfold sV;rw [hG,hP,hV]
   rw [hpb] at bad;have h79:=OC X Qe hlen;have h77:=LS S (max (X.rule.length:Int) 1);have hmr:(X.rule.map BE).length=X.rule.length:=P6 _;have tf:DD true [ii (X.rule.map BE).length,ii 1]=some (ii (max (X.rule.length:Int) 1)):=by
    rw [hmr];show some (TV.i .i64 (bif od (X.rule.length:Int) 1 then 1 else (X.rule.length:Int)))=_;rw [Ao];by_cases h:(X.rule.length:Int) < 1
    ·rw [decide_eq_true h];simp only [cond_true];congr 2;omega
    ·rw [decide_eq_false h];simp only [cond_false];congr 2;omega
   refine⟨_,⟨jm hx,rfl⟩,_,rfl,_,rfl,_,rfl,_,rfl,_,⟨jm hq,rfl⟩,_,rfl,l6 h79 ⟨_,l_ _,?_⟩⟩;cases hw:iU X Qe with
   |false=>refine⟨rfl,bg rfl (bg rfl (bg rfl ⟨rfl,bg rfl ⟨rfl,bg rfl (bg rfl (bg rfl (bg rfl (bg rfl ⟨_,rfl,nY rfl ⟨trivial,trivial,?_⟩⟩))))⟩⟩))⟩;rw [bad (by rw [hw];rfl)]
   |true=>
    refine⟨rfl,aR rfl rfl (aR rfl rfl (aR rfl ⟨jm hs,rfl⟩ ⟨rfl,aR rfl rfl ⟨rfl,aR rfl rfl (aR rfl rfl (aR rfl tf (aR rfl (A9 h77) (aR rfl (l_ _) ⟨_,rfl,cK (fun h=>?_) (fun h=>?_)⟩))))⟩⟩))⟩
    ·have h':wi S (max (X.rule.length:Int) 1)=false:=by simpa using h
     refine⟨trivial,trivial,?_⟩;rw [bad (by rw [hw,h'];rfl)]
    ·have h':wi S (max (X.rule.length:Int) 1)=true:=by simpa using h
     exact⟨_,vn h3 (by omega),_,by omega,i+1,by omega,rfl,rfl,rfl,rfl,rfl,m8 hr qxv (by rw [hpb,hw,h'];rfl)⟩
  ·obtain rfl:=vF hi h3;rw [ry] at qxv;refine⟨trivial,trivial,?_⟩;unfold kI;rw [hcn,hall,qxv];rfl
end Go.Ax.dR
set_option maxRecDepth 100000
namespace Go.Ax.dR
open Go Go.Ax Go.Ax.V
open Go.Ax.Ft (Gr Ed Ex Co Cf Ch mT sJ zG BF BE y8 DA kI iO rE sV iU xw wi fE GS)
abbrev jn (n:Int):TV:=.i .i64 n
abbrev pn (x:AV):TV:=.pZ x (B9 20 x)
def gZ (e:Nat) (x y a b:Int) (q:List Int):TV:=.a [pn (Kh x y),pn (ID a b),pn (Ih e q),pn Kg]
def ke (k:Nat):TV:=.a [pn (Lt k),pn Ls,pn Lr]
def MT (p n:Int):TV:=.a [jn p,.b false,jn n]
def Ic (t:Bool):TV:=.a [.b t,jn 0,jn 0,jn 0]
theorem qt {ts:List TV} {bs:List AV} (h:eT ts bs) (hf:bs.all AV.flat=true):V.Can (.a ts) (.agg bs):=.a ts bs h.1 (fun x hx=>Qj.1 hf x hx) h.2
theorem mU {x:AV} (hr:CA x=true) (hg:pQ 20 x=true):V.Can (pn x) x:=F8 hr hg rfl
theorem BK {x:AV} {t:TV} (hg:pQ 20 x=true) (he:B9 20 x=t):V.Can t x:=he▸sX 20 x hg
theorem AY {e:Nat} {q:List Int} (x y a b:Int) (he:e<=2) (hq:q.length<=16):V.Can (gZ e x y a b q) (cA e x y a b q):=
 qt (br (mU rfl (by kernel_rfl)) (br (mU rfl (by kernel_rfl)) (br (mU rfl (GB e q he hq ())) (br (mU rfl (by kernel_rfl)) eE)))) rfl
theorem F7 (k:Nat):V.Can (ke k) (sA k):=qt (br (mU rfl (by kernel_rfl)) (br (mU rfl (by kernel_rfl)) (br (mU rfl (by kernel_rfl)) eE))) rfl
theorem Ig (t:Bool):V.Can (Ic t) (dA t):=qt (br (.b _) (br (.i _ _) (br (.i _ _) (br (.i _ _) eE)))) rfl
theorem iP {e:Nat} {q:List Int} (x y a b:Int) (t:Bool) (he:e<=2) (hq:q.length<=16):V.Can (.tp [gZ e x y a b q,Ic t]) (.dM [cA e x y a b q,dA t]):=
 have h:eT [gZ e x y a b q,Ic t] [cA e x y a b q,dA t]:=br (AY x y a b he hq) (br (Ig t) eE)
 .tp _ _ h.1 (fun z hz=>by
  rcases Qf.1 hz with rfl|hz
  ·rfl
  ·rw [Qh.1 hz];rfl) h.2
def AG:Ex:=.mk 1 1 0 []
def NQ:List Ed:=[⟨0,2,2,0,0,0,y8,⟨1,AG,AG⟩⟩,⟨0,1,2,0,0,0,y8,⟨2,AG,AG⟩⟩]
def g0:Gr:=⟨4,NQ++[⟨2,3,6,0,0,0,y8,DA⟩,⟨3,0,3,0,0,0,.mk 2 0 0 [],DA⟩],[0]⟩
def g1:Gr:=⟨4,NQ++[⟨2,3,4,0,0,0,y8,DA⟩,⟨3,0,0,0,0,0,y8,DA⟩],[0]⟩
def GG (k:Nat):Ch:=⟨0,k,0,1,1,[]⟩
def cF (x y a b:Int) (q:List Int):Cf:=⟨[x,y],[[a],[b]],[q.map fun v=>(0,v)],[0]⟩
theorem Nm (k:Nat):V.Can (mT [GG k] [g0,g1] [1,1]) (sA k):=by
 have h:=sX 20 (sA k) (by kernel_rfl);have e:B9 20 (sA k)=mT [GG k] [g0,g1] [1,1]:=by kernel_rfl
 exact e▸h
theorem Nn {e:Nat} {q:List Int} (x y a b:Int) (he:e<=2) (hq:q.length<=16):V.Can (sJ (cF x y a b q)) (cA e x y a b q):=by
 have e1:TV.l (q.map HC)=zG (q.map fun v=>(0,v)):=by unfold zG;rw [List.map_map];rfl
 refine qt (br (BK (x:=Kh x y) (by kernel_rfl) (by kernel_rfl)) (br (BK (x:=ID a b) (by kernel_rfl) (by kernel_rfl)) (br (BK (GB e q he hq ()) ?_) (br (BK (x:=Kg) (by kernel_rfl) (by kernel_rfl)) eE)))) rfl;rw [NK e q he hq (),e1];rfl
def BV (x:Int):Prop:=x=0\/x=2\/x=3
theorem B5 (n:Int):small (wI n):=by have h1:=wf_wrap .i32 n;rw [←je] at h1;have h2:=bounds_i32 h1;unfold wI;rw [m4 (by omega) (by omega)];exact h2
theorem jZ (e:Nat):nE e<=2:=by unfold nE;split<;>omega
theorem like {k:Nat} {x y a b:Int} {q:List Int} (hx:BV x) (hy:BV y) (ha:small a) (hb:small b) (hq:∀v∈q,small v) (hk:q.length<=k):kI [GG k] [g0,g1] [1,1] (cF x y a b q)=true:=by
 unfold small at ha hb;have hx':0<=x/\x < 4:=by rcases hx with rfl|rfl|rfl<;>omega
 have hy':0<=y/\y < 4:=by rcases hy with rfl|rfl|rfl<;>omega
 have h1:iU (GG k) (q.map fun v=>(0,v))=true:=by unfold iU;rw [Qk];refine⟨Qj.2 fun m hm=>?_,decide_eq_true (by rw [P6];show (q.length:Int)<=(k:Int);omega)⟩;obtain⟨v,hv,rfl⟩:=Qi.1 hm;have:=hq v hv;unfold small at this;simp [xw,wi,fE,GG];omega
 simp [kI,iO,rE,sV,wi,fE,cF,g0,g1,List.range,List.range.loop];refine⟨by omega,?_,?_⟩
 ·exact h1
 ·simp [GG];decide
theorem NB {k:Nat} (h0:1<=k) (h1:k<=16):VS prog 53 [ke k] (fun r=>r=.b true):=by obtain⟨n,rfl⟩:∃n,k=n+1:=⟨k - 1,by omega⟩;exact j9 (k:=1000) (args:=[sA (n+1)]) rfl (PC n (by omega)) (.b true) rfl
theorem NA {k e:Nat} {x y a b:Int} {q:List Int} (he:e<=2) (hq:q.length<=16) (hl:kI [GG k] [g0,g1] [1,1] (cF x y a b q)=true):VS prog 54 [ke k,gZ e x y a b q] (fun r=>r=.b true):=by intro zs ha;have e1:zs=[sA k,cA e x y a b q]:=uK (oS 9) rfl ha.1 ha.2;subst e1;have hz:GS (cF x y a b q):=⟨by simp [cF],by simp [cF],by simp [cF],by simp [cF],by simp [cF];omega,by simp [cF]⟩;have h:=OG [GG k] [g0,g1] [1,1] (cF x y a b q) (by simp) (by simp) (by simp) hz [sA k,cA e x y a b q] (br (Nm k) (br (Nn x y a b he hq) eE));rw [hl] at h;exact h
theorem snd {m e:Nat} {y a b n:Int} {q:List Int} (he:e<=2) (hq:q.length<=15) (ha:small a):VS prog 73 [ke (sk (Nat.succ q.length) m),gZ e 3 y a b q,MT 0 n] (fun r=>r=.tp [gZ e 0 y a b (q++[a]),Ic true]):=by
 have hc:eT [ND 0,.l (jn a::[])] [.agg GJ,.b6 [zI a] 1 none]:=br (BK (by kernel_rfl) (by kernel_rfl)) (br (BK (by kernel_rfl) (by kernel_rfl)) eE);obtain⟨H,h,Nb⟩:=Ji (LU a [] ha) hc;have hF:=F3 e q he hq m y a b n a H h;have E35:=congrArg Seen.LY hF;have qwQ:=congrArg Seen.f133 hF;have E98:=congrArg Seen.f98 hF;have qwO:=congrArg Seen.M9 hF;have L98:=congrArg Seen.PF hF;have H35:=congrArg Seen.Nb hF;have qwP:=congrArg Seen.Nc hF;have H98:=congrArg Seen.PI hF;have qwN:=congrArg Seen.LV hF;have S98:=congrArg Seen.OB hF;have S73:=congrArg Seen.OE hF;have T73:=congrArg Seen.t73 hF;simp only [Gi,seen,Ge] at E35 qwQ E98 qwO L98 H35 qwP H98 qwN S98 S73 T73;generalize hA:[sA (sk (Nat.succ q.length) m),cA e 3 y a b q,pA 0 n]=A at *;have hX:aN prog 35 (Ll (EK (Lk A))).args (Ll (EK (Lk A))).H (Ll (EK (Lk A))).nx=some (aE a H h):=by rw [E35];exact Nb
 have vi:=zu (prog:=prog) (k:=1000) (f:=133) (g:=35) (af:=zX) (by kernel_rfl) qwO hX (by rw [E35]) H35 (rO (d:=FX) qwN);have r98:=zu (prog:=prog) (k:=1000) (f:=98) (g:=133) (af:=Ij) (by kernel_rfl) L98 vi qwQ qwP (rO (d:=FX) S98);have r73:=zu (prog:=prog) (k:=1000) (f:=73) (g:=98) (af:=Ik) (by kernel_rfl) (by rw [←hA];rfl) r98 E98 H98 (rO (d:=FX) S73);exact E4 (args:=A) (by rw [←hA];rfl) r73 T73 (iP 0 y a b true he (by rw [P7];simp;omega)) rfl
def d0 (x:Int):Nat:=if x=0 then 3 else if x=2 then 2 else 1
def d1 (y:Int):Nat:=if y=0 then 2 else if y=2 then 1 else 3
theorem Eh (x:Int):1<=d0 x:=by unfold d0;split<;>(try split)<;>omega
theorem Eg (x:Int):1<=d1 x:=by unfold d1;split<;>(try split)<;>omega
theorem Kd (x:Int):d0 x<=3:=by unfold d0;split<;>(try split)<;>omega
theorem Kb (x:Int):d1 x<=3:=by unfold d1;split<;>(try split)<;>omega
structure Iq (k who:Nat) (n:Int) (e:Nat) (x y a b:Int) (q:List Int) (e':Nat) (x' y' a' b':Int) (q':List Int) (mv:Bool):Prop where
 vs:VS prog 52 [ke k,gZ e x y a b q,MT who n] (fun r=>r=.tp [gZ e' x' y' a' b' q',Ic mv,.i .i64 0])
 he:e'<=2
 hx:BV x'
 hy:BV y'
 ha:small a'
 hb:small b'
 hq:∀v∈q',small v
 hk:q'.length<=k
 hc:(q'=q/\mv=true/\(who=0->d0 x'+1=d0 x)/\(who=1->d1 y'+1=d1 y))\/(who=0/\∃v,q'=q++[v]/\mv=true)\/(who=1/\q=b'::q'/\mv=true)\/(q'=q/\mv=false/\(who=0/\q.length=k\/who=1/\q.length=0))
theorem LN {k e:Nat} {x y a b n:Int} {q:List Int} (h0:1<=k) (h1:k<=16) (he:e<=2) (hx:BV x) (hy:BV y) (ha:small a) (hb:small b) (hq:∀v∈q,small v) (hk:q.length<=k):∃e' x' a' q' mv,Iq k 0 n e x y a b q e' x' y a' b q' mv:=by
 have qxe:q.length<=16:=by omega
 have hR:=Jf (NB h0 h1) (NA he qxe (like hx hy ha hb hq hk));rcases hx with rfl|rfl|rfl
 ·exact⟨nE e,2,a,q,true,wH hR (j9 (k:=1000) (args:=[sA k,cA e 0 y a b q,pA 0 n]) rfl (F0 e q he qxe k y a b n) (iP 2 y a b true (jZ e) qxe) rfl),jZ e,.inr (.inl rfl),hy,ha,hb,hq,hk,.inl ⟨rfl,rfl,fun _=>rfl,fun h=>absurd h (by decide)⟩⟩
 ·exact⟨nE e,3,wI n,q,true,wH hR (j9 (k:=1000) (args:=[sA k,cA e 2 y a b q,pA 0 n]) rfl (F2 e q he qxe k y a b n) (iP 3 y (wI n) b true (jZ e) qxe) rfl),jZ e,.inr (.inr rfl),hy,B5 n,hb,hq,hk,.inl ⟨rfl,rfl,fun _=>rfl,fun h=>absurd h (by decide)⟩⟩
 ·by_cases hf:q.length=k
  ·subst hf;exact⟨nE e,3,a,q,false,wH hR (j9 (k:=1000) (args:=[sA q.length,cA e 3 y a b q,pA 0 n]) rfl (PT e q he h0 qxe y a b n) (iP 3 y a b false (jZ e) qxe) rfl),jZ e,.inr (.inr rfl),hy,ha,hb,hq,hk,.inr (.inr (.inr ⟨rfl,rfl,.inl ⟨rfl,rfl⟩⟩))⟩
  ·have e1:sk (Nat.succ q.length) (k - (q.length+1))=k:=by rw [I3];omega
   have h:=snd (q:=q) (m:=k - (q.length+1)) (y:=y) (b:=b) (n:=n) he (by omega) ha;rw [e1] at h;refine⟨e,0,a,q++[a],true,wH hR h,he,.inl rfl,hy,ha,hb,fun v hv=>?_,by rw [P7];simp;omega,.inr (.inl ⟨rfl,a,rfl,rfl⟩)⟩;rcases Qg.1 hv with hv|hv
   ·exact hq v hv
   ·rw [Qh.1 hv];exact ha
theorem LM {k e:Nat} {x y a b n:Int} {q:List Int} (h0:1<=k) (h1:k<=16) (he:e<=2) (hx:BV x) (hy:BV y) (ha:small a) (hb:small b) (hq:∀v∈q,small v) (hk:q.length<=k):∃e' y' b' q' mv,Iq k 1 n e x y a b q e' x y' a b' q' mv:=by
 have qxe:q.length<=16:=by omega
 have hR:=Jf (NB h0 h1) (NA he qxe (like hx hy ha hb hq hk));rcases hy with rfl|rfl|rfl
 ·exact⟨nE e,2,b,q,true,wH hR (j9 (k:=1000) (args:=[sA k,cA e x 0 a b q,pA 1 n]) rfl (G0 e q he qxe k x a b n) (iP x 2 a b true (jZ e) qxe) rfl),jZ e,hx,.inr (.inl rfl),ha,hb,hq,hk,.inl ⟨rfl,rfl,fun h=>absurd h (by decide),fun _=>rfl⟩⟩
 ·match q,hq,hk,qxe,hR with
  |[],hq,hk,qxe,hR=>exact⟨nE e,2,b,[],false,wH hR (j9 (k:=1000) (args:=[sA k,cA e x 2 a b [],pA 1 n]) rfl (PS e he k x a b n) (iP x 2 a b false (jZ e) qxe) rfl),jZ e,hx,.inr (.inl rfl),ha,hb,hq,hk,.inr (.inr (.inr ⟨rfl,rfl,.inr ⟨rfl,rfl⟩⟩))⟩
  |v::r,hq,hk,qxe,hR=>
   have hr:r.length<=16:=by simp at qxe;omega
   exact⟨1,3,v,r,true,wH hR (j9 (k:=1000) (args:=[sA k,cA e x 2 a b (v::r),pA 1 n]) rfl (G2 e (v::r) he (by simp) qxe k x a b n) (iP x 3 a v true (by omega) hr) rfl),by omega,hx,.inr (.inr rfl),ha,hq v Qc,fun u hu=>hq u (Qd _ hu),by simp at hk;omega,.inr (.inr (.inl ⟨rfl,rfl,rfl⟩))⟩
 ·exact⟨nE e,0,b,q,true,wH hR (j9 (k:=1000) (args:=[sA k,cA e x 3 a b q,pA 1 n]) rfl (G3 e q he qxe k x a b n) (iP x 0 a b true (jZ e) qxe) rfl),jZ e,hx,.inl rfl,ha,hb,hq,hk,.inl ⟨rfl,rfl,fun h=>absurd h (by decide),fun _=>rfl⟩⟩
theorem Oz {k who e:Nat} {x y a b n:Int} {q:List Int} (hw:who=0\/who=1) (h0:1<=k) (h1:k<=16) (he:e<=2) (hx:BV x) (hy:BV y) (ha:small a) (hb:small b) (hq:∀v∈q,small v) (hk:q.length<=k):∃e' x' y' a' b' q' mv,Iq k who n e x y a b q e' x' y' a' b' q' mv:=by
 rcases hw with rfl|rfl
 ·obtain⟨e',x',a',q',mv,h⟩:=LN (n:=n) h0 h1 he hx hy ha hb hq hk;exact⟨e',x',y,a',b,q',mv,h⟩
 ·obtain⟨e',y',b',q',mv,h⟩:=LM (n:=n) h0 h1 he hx hy ha hb hq hk;exact⟨e',x,y',a,b',q',mv,h⟩
end Go.Ax.dR
set_option maxRecDepth 100000
namespace Go.Ax.dR
open Go Go.Ax Go.Ax.V
theorem pK (a b:Int):bF .lss (.i .i64 a) (.i .i64 b)=some (.b (od a b)):=rfl
theorem DY (a b:Int):bF .gtr (.i .i64 a) (.i .i64 b)=some (.b (od b a)):=rfl
theorem vt {i n:Nat} (h:od (i:Int) (n:Int)=true):i < n:=by rw [iZ] at h;simpa using h
theorem HY {i n:Nat} (h:od (i:Int) (n:Int)=false):n<=i:=by rw [iZ] at h;simpa using h
theorem pV {i:Nat} (hi:i < 4611686018427387904):bF .add (jn i) (.i .i64 1)=some (jn ((i+1:Nat):Int)):=by have:=EI (a:=(i:Int)) (b:=1) (by omega) (by omega);exact this
theorem IX {n:Nat} (h:1<=n) (hn:n<=16):bF .sub (jn n) (.i .i64 1)=some (jn ((n - 1:Nat):Int)):=by
 have:=Cd (a:=(n:Int)) (b:=1) (by omega) (by omega);rw [this];have e:(n:Int) - 1=((n - 1:Nat):Int):=by omega
 rw [e]
theorem IW {s g n:Nat} (h:s=g+n/\s<=1000):bF .sub (jn s) (jn g)=some (jn n):=by
 have:=Cd (a:=(s:Int)) (b:=g) (by omega) (by omega);rw [this];have e:(s:Int) - g=n:=by omega
 rw [e]
theorem xq (a:Int):bF .neq (jn a) (jn a)=some (.b false):=by show some (TV.b (!AR a a))=_;rw [J9 rfl];rfl
theorem J7 {a b:Nat} (h:a=b):bF .eql (jn a) (jn b)=some (.b true):=by subst h;show some (TV.b (AR a a))=_;rw [J9 rfl]
theorem J8 {a:Nat} (h:a=0):bF .eql (jn a) (.i .i64 0)=some (.b true):=by subst h;rfl
theorem J0 {a b:Nat} (h:a<=b):bF .gtr (jn a) (jn b)=some (.b false):=by show some (TV.b (od b a))=_;rw [DM (by omega)]
theorem JR {a b:Nat} (h:b < a):bF .leq (jn a) (jn b)=some (.b false):=by show some (TV.b (!od b a))=_;rw [JQ (by omega)];rfl
theorem J3 {a b:Nat} (h:a < b):bF .geq (jn a) (jn b)=some (.b false):=by show some (TV.b (!od a b))=_;rw [JQ (by omega)];rfl
theorem Dj {t:Bool} (h:t=true) (a b:TV):c_ (.b t) a b=some a:=by subst h;rfl
theorem Dk {t:Bool} (h:t=false) (a b:TV):c_ (.b t) a b=some b:=by subst h;rfl
theorem j0 {e:Nat} {q:List Int} (he:e<=2) (hq:q.length<=16):fo (B9 20 (Ih e q)) (.i .i64 0)=some (.l (q.map HC)):=by rw [NK e q he hq ()];rfl
theorem JZ (a b:Int):fo (B9 20 (ID a b)) (.i .i64 1)=some (.l [jn b]):=by kernel_rfl
theorem kJ (q:List Int):f_ (.l (q.map HC))=some (jn q.length):=by show some (TV.i .i64 ((q.map HC).length:Int))=_;rw [P6]
theorem xF (l:List Int):some (TV.i .i64 ((l.map jn).length:Int))=some (jn l.length):=by rw [P6]
theorem JY {j n:Nat} (h:j < n):vw (jn j) n=some j:=by show DO (Int.ofNat j) n=_;unfold DO;simp only [Qp.mpr h,cond_true]
theorem JU {l:List TV} {j:Nat} {w:Int} (h:l[j]?=some (jn w)):yx l j 0 none=some (jn w):=by unfold yx;rw [h];rfl
theorem GH {l:List Int} (w:Int) (h:l.length<=1000):k8 8 (l.map jn) [jn w]=some ((l++[w]).map jn):=by unfold k8;have h1:Nat.ble (((l.map jn).length + [jn w].length)*8) most=true:=Qo.mpr (by rw [P6];show (l.length+1)*8<=70368744177664;omega);have h2:Nat.ble ((l.map jn).length + [jn w].length) most=true:=Qo.mpr (by rw [P6];show l.length+1<=70368744177664;omega);rw [h1,h2,List.map_append];rfl
structure Lp (k e:Nat) (x y a b:Int) (q:List Int):Prop where
 he:e<=2
 hx:BV x
 hy:BV y
 ha:small a
 hb:small b
 hq:∀v∈q,small v
 hk:q.length<=k
theorem Iq.ok {k who:Nat} {n:Int} {e:Nat} {x y a b:Int} {q:List Int} {e':Nat} {x' y' a' b':Int} {q':List Int} {mv:Bool} (h:Iq k who n e x y a b q e' x' y' a' b' q' mv):Lp k e' x' y' a' b' q':=⟨h.he,h.hx,h.hy,h.ha,h.hb,h.hq,h.hk⟩
def Prog (k who was j:Nat) (x y:Int) (q:List Int):Prop:=(who=0->was<=q.length/\(was < k->was < q.length\/d0 x+j<=3))/\(who=1->q.length<=was/\(0 < was->q.length < was\/d1 y+j<=3))
theorem Bh {k who was j:Nat} {n:Int} {e:Nat} {x y a b:Int} {q:List Int} {e':Nat} {x' y' a' b':Int} {q':List Int} {mv:Bool} (h:Iq k who n e x y a b q e' x' y' a' b' q' mv) (hk:q.length<=k) (hp:Prog k who was j x y q):Prog k who was (j+1) x' y' q':=by
 have p1:=Eh x;have p2:=Eg y;refine⟨fun hw=>?_,fun hw=>?_⟩
 ·obtain⟨g1,g2⟩:=hp.1 hw;rcases h.hc with ⟨rfl,_,c0,_⟩|⟨_,v,rfl,_⟩|⟨hw',_⟩|⟨rfl,_,⟨_,c0⟩|⟨hw',_⟩⟩
  ·have:=c0 hw;refine⟨g1,fun hwk=>?_⟩;rcases g2 hwk with h|h
   ·exact .inl h
   ·exact .inr (by omega)
  ·rw [P7];exact⟨by simp;omega,fun _=>.inl (by simp;omega)⟩
  ·omega
  ·exact⟨g1,fun hwk=>.inl (by omega)⟩
  ·omega
 ·obtain⟨g1,g2⟩:=hp.2 hw;rcases h.hc with ⟨rfl,_,_,c1⟩|⟨hw',_⟩|⟨_,rfl,_⟩|⟨rfl,_,⟨hw',_⟩|⟨_,c1⟩⟩
  ·have:=c1 hw;refine⟨g1,fun hwk=>?_⟩;rcases g2 hwk with h|h
   ·exact .inl h
   ·exact .inr (by omega)
  ·omega
  ·simp only [Qa] at g1;exact⟨by omega,fun _=>.inl (by omega)⟩
  ·omega
  ·exact⟨g1,fun hwk=>.inl (by omega)⟩
theorem told {k who:Nat} {n:Int} {e:Nat} {x y a b:Int} {q:List Int} {e':Nat} {x' y' a' b':Int} {q':List Int} {mv:Bool} (h:Iq k who n e x y a b q e' x' y' a' b' q' mv) {sent got:List Int} (hs:sent=got++q) :
  ∃sent' qxT,sent'=qxT++q'/\sent'.length<=sent.length+1/\((q.length < q'.length/\∃w,q'=q++[w]/\sent'=sent++[w])\/(¬q.length < q'.length/\sent'=sent))/\((q'.length < q.length/\qxT=got++[b'])\/(¬q'.length < q.length/\qxT=got)):=by
 subst hs;rcases h.hc with ⟨rfl,_⟩|⟨_,v,rfl,_⟩|⟨_,rfl,_⟩|⟨rfl,_⟩
 ·exact⟨_,got,rfl,by omega,.inr ⟨by omega,rfl⟩,.inr ⟨by omega,rfl⟩⟩
 ·exact⟨got++(q++[v]),got,rfl,by simp;omega,.inl ⟨by simp,v,rfl,by simp⟩,.inr ⟨by simp,rfl⟩⟩
 ·exact⟨got++b'::q',got++[b'],by simp,by omega,.inr ⟨by simp,rfl⟩,.inl ⟨by simp,rfl⟩⟩
 ·exact⟨_,got,rfl,by omega,.inr ⟨by omega,rfl⟩,.inr ⟨by omega,rfl⟩⟩
theorem qm {k:Nat} (h0:1<=k) (h1:k<=16) (bs:List Bool) (ms:List Int):Ga (ke k) (gZ 0 0 0 0 0 []) (.l (bs.map TV.b)) (.l (ms.map (TV.i .i32))) (jn k) (fun r=>r=.b true):=by
 have z0:small 0:=by unfold small;omega
 unfold Ga;refine⟨fun m p1 p2 p3 p4 p5 p6 p7 p8=>∃(i e:Nat) (x y a b:Int) (q sent got:List Int),m=50 - i/\i<=50/\Lp k e x y a b q/\sent=got++q/\sent.length<=4*i/\p1=ke k/\p2=gZ e x y a b q/\p3=.l (bs.map TV.b)/\p4=.l (ms.map (TV.i .i32))/\p5=jn k/\p6=sent.map jn/\p7=got.map jn/\p8=jn i,
  ⟨50,0,0,0,0,0,0,[],[],[],rfl,by omega,⟨by omega,.inl rfl,.inl rfl,z0,z0,fun v hv=>(by cases hv),by simp⟩,rfl,by simp,rfl,rfl,rfl,rfl,rfl,rfl,rfl,rfl⟩,?_⟩
 rintro m p1 p2 p3 p4 p5 p6 p7 p8 ⟨i,e,x,y,a,b,q,sent,got,rfl,hi,hC,hs,hsl,rfl,rfl,rfl,rfl,rfl,rfl,rfl,rfl⟩;have hml:(bs.map TV.b).length=bs.length:=P6 _;have hmm:(ms.map (TV.i .i32)).length=ms.length:=P6 _;have he:=hC.he;have qxe:q.length<=16:=Qw hC.hk h1;refine⟨jn bs.length,by show some (TV.i .i64 ((bs.map TV.b).length:Int))=_;rw [hml],_,pK _ _,?_⟩;have hlen:sent.length=got.length+q.length/\sent.length<=1000:=by refine⟨by rw [hs,P7],by omega⟩
 have hle:got.length<=sent.length:=by omega
 have qzs:(∃qzM,some (TV.i .i64 (List.length (got.map jn)))=some qzM/\∃qzL,some (TV.i .i64 (List.length (sent.map jn)))=some qzL/\∃qxa,bF .gtr qzM qzL=some qxa/\gd qxa false qxa false/\∃qzK,gV qxa false (fun r=>some (TV.i .i64 (List.length (sent.map jn)))=some r) qzK/\gd qxa false qxa false/\∃qzJ,gV qxa false (fun r=>some (TV.i .i64 (List.length (got.map jn)))=some r) qzJ/\∃qzI,gV qxa false (fun r=>bF .sub qzK qzJ=some r) qzI/\gd qxa false qxa false/\∃qzH,gV qxa false (fun r=>ej (ck (gZ e x y a b q) 2)=some r) qzH/\∃qzG,gV qxa false (fun r=>(fo qzH (TV.i .i64 0)=some r/\eo 1 r)) qzG/\gd qxa false qxa false/\∃qzF,gV qxa false (fun r=>mN qzG 0 none=some r) qzF/\∃qzE,gV qxa false (fun r=>f_ qzF=some r) qzE/\∃qzD,gV qxa false (fun r=>bF .neq qzI qzE=some r) qzD/\∃qzC,c_ qxa (TV.b true) qzD=some qzC/\b9 qzC (True/\eU [(TV.b false)]/\TV.b false=.b true) (∃qzn:Nat->List TV->List TV->TV->Prop,(∃qxV,qzn qxV (sent.map jn) (got.map jn) (TV.i .i64 0))/\∀qxV:Nat,∀qxW:List TV,∀qxH:List TV,∀qxE:TV,qzn qxV qxW qxH qxE->∃qzB,some (TV.i .i64 (List.length qxH))=some qzB/\∃qzA,bF .lss qxE qzB=some qzA/\b9 qzA (∃qzz,vw qxE (List.length qxH)=some qzz/\∃qzy,yx qxH qzz 0 none=some qzy/\∃qzx,vw qxE (List.length qxW)=some qzx/\∃qzw,yx qxW qzx 0 none=some qzw/\∃qzv,bF .neq qzy qzw=some qzv/\b9 qzv (True/\eU [(TV.b false)]/\TV.b false=.b true) (∃qzu,bF .add qxE (TV.i .i64 1)=some qzu/\∃qzP,qzP < qxV/\qzn qzP qxW qxH qzu)) (True/\eU [(TV.b true)]/\TV.b true=.b true))):=by
  refine⟨_,xF _,⟨_,xF _,⟨_,(J0 hle),⟨rfl,(aR rfl (xF _) ⟨rfl,(aR rfl (xF _) (aR rfl (IW hlen) ⟨rfl,(aR rfl rfl (aR rfl ⟨j0 he qxe,rfl⟩ ⟨rfl,(aR rfl rfl (aR rfl (kJ _) (aR rfl (xq _) ⟨_,rfl,(c7 rfl ?_)⟩)))⟩))⟩))⟩)⟩⟩⟩⟩;refine⟨fun m l1 l2 p=>∃j:Nat,j<=got.length/\m=got.length - j/\l1=sent.map jn/\l2=got.map jn/\p=jn j,⟨got.length,0,by omega,rfl,rfl,rfl,rfl⟩,?_⟩;rintro m l1 l2 p ⟨j,hj,rfl,rfl,rfl,rfl⟩;refine⟨_,xF _,_,pK _ _,cK (fun h=>?_) (fun _=>⟨trivial,trivial,rfl⟩)⟩;have hjl:j < got.length:=vt h;obtain⟨w,hw⟩:∃w,got[j]?=some w:=⟨_,PU hjl⟩;have hw':(got.map jn)[j]?=some (jn w):=by rw [PY,hw];rfl
  have hv':(sent.map jn)[j]?=some (jn w):=by rw [PY,hs,PW hjl,hw];rfl
  have hx1:vw (jn j) (List.length (got.map jn))=some j:=JY (by rw [P6];exact hjl);have hx2:vw (jn j) (List.length (sent.map jn))=some j:=JY (by rw [P6];omega);exact⟨_,hx1,_,JU hw',_,hx2,_,JU hv',_,xq _,c7 rfl ⟨_,pV (by omega),got.length - (j+1),by omega,j+1,by omega,rfl,rfl,rfl,rfl⟩⟩
 cases ht:od (i:Int) (bs.length:Int) with
 |false=>exact bg rfl (bg rfl ⟨_,rfl,c7 rfl qzs⟩)
 |true=>
  refine aR rfl rfl (aR rfl (pK _ _) ⟨_,rfl,cK (fun h50=>?_) (fun _=>qzs)⟩);clear qzs;have hil:i < bs.length:=vt ht;have hi50:i < 50:=vt (n:=50) h50;obtain⟨l,hl⟩:∃l,bs[i]?=some l:=⟨_,PU hil⟩;have hl':(bs.map TV.b)[i]?=some (.b l):=by rw [PY,hl];rfl
  refine⟨fun p1 p2 p3 p4 p5 p6 p7 p8 p9=>∃v:Int,p1=ke k/\p2=gZ e x y a b q/\p3=.l (bs.map TV.b)/\p4=.l (ms.map (TV.i .i32))/\p5=jn k/\p6=sent.map jn/\p7=got.map jn/\p8=jn i/\p9=jn v,?_,?_⟩
  ·refine⟨jn ms.length,by show some (TV.i .i64 ((ms.map (TV.i .i32)).length:Int))=_;rw [hmm],_,pK _ _,cK (fun h3=>?_) (fun h3=>⟨0,rfl,rfl,rfl,rfl,rfl,rfl,rfl,rfl,rfl⟩)⟩;have hal:i < ms.length:=vt h3;obtain⟨v,hv⟩:∃v,ms[i]?=some v:=⟨_,PU hal⟩;have hv':(ms.map (TV.i .i32))[i]?=some (.i .i32 v):=by rw [PY,hv];rfl
   exact⟨_,⟨jm hv',rfl⟩,_,rfl,_,rfl,cG .i64 v,rfl,rfl,rfl,rfl,rfl,rfl,rfl,rfl,rfl⟩
  rintro p1 p2 p3 p4 p5 p6 p7 p8 p9 ⟨v,rfl,rfl,rfl,rfl,rfl,rfl,rfl,rfl,rfl⟩;refine⟨fun p1 p2 p3 p4 p5 p6 p7 p8 p9 p10=>∃who:Nat,(who=0\/who=1)/\p1=ke k/\p2=gZ e x y a b q/\p3=.l (bs.map TV.b)/\p4=.l (ms.map (TV.i .i32))/\p5=jn k/\p6=sent.map jn/\p7=got.map jn/\p8=jn i/\p9=jn v/\p10=jn who,?_,?_⟩
  ·refine⟨_,⟨jm hl',rfl⟩,_,rfl,?_⟩;cases l with
   |true=>exact nY rfl ⟨1,.inr rfl,rfl,rfl,rfl,rfl,rfl,rfl,rfl,rfl,rfl,rfl⟩
   |false=>exact c7 rfl ⟨0,.inl rfl,rfl,rfl,rfl,rfl,rfl,rfl,rfl,rfl,rfl,rfl⟩
  rintro p1 p2 p3 p4 p5 p6 p7 p8 p9 p10 ⟨who,qwD,rfl,rfl,rfl,rfl,rfl,rfl,rfl,rfl,rfl,rfl⟩;refine⟨_,rfl,_,⟨j0 he qxe,rfl⟩,_,rfl,_,kJ _,?_⟩;generalize qwS:q.length=was;have hp0:Prog k who was 0 x y q:=by have t1:=Kd x;have t2:=Kb y;exact⟨fun _=>⟨by omega,fun _=>.inr (by omega)⟩,fun _=>⟨by omega,fun _=>.inr (by omega)⟩⟩
  refine⟨fun m p1 p2 p3 p4 p5 p6 p7 p8 p9 p10 p11 p12=>∃(j e:Nat) (x y a b:Int) (q sent got:List Int),j<=4/\m=4 - j/\Lp k e x y a b q/\sent=got++q/\sent.length<=4*i+j/\Prog k who was j x y q/\p1=ke k/\p2=gZ e x y a b q/\p3=.l (bs.map TV.b)/\p4=.l (ms.map (TV.i .i32))/\p5=jn k/\p6=sent.map jn/\p7=got.map jn/\p8=jn i/\p9=jn v/\p10=jn who/\p11=jn was/\p12=jn j,
   ⟨4,0,e,x,y,a,b,q,sent,got,by omega,rfl,hC,hs,by omega,hp0,rfl,rfl,rfl,rfl,rfl,rfl,rfl,rfl,rfl,rfl,rfl,rfl⟩,?_⟩
  clear hp0 qwS hlen hle hs hsl hC he qxe;rintro m p1 p2 p3 p4 p5 p6 p7 p8 p9 p10 p11 p12 ⟨j,e,x,y,a,b,q,sent,got,hj,rfl,hC,hs,hsl,hP,rfl,rfl,rfl,rfl,rfl,rfl,rfl,rfl,rfl,rfl,rfl,rfl⟩;have he:=hC.he;have qxe:q.length<=16:=Qw hC.hk h1;refine⟨_,pK _ _,cK (fun h4=>?_) (fun h4=>?_)⟩
  ·have hj4:j < 4:=vt (n:=4) h4;obtain⟨e',x',y',a',b',q',mv,hS⟩:=Oz (n:=v) qwD h0 h1 hC.he hC.hx hC.hy hC.ha hC.hb hC.hq hC.hk;have he':=hS.he;have qxM:q'.length<=16:=Qw hS.hk h1;obtain⟨sent',qxT,hs',qzp,hse,hgo⟩:=told hS hs;have hgl:got.length<=1000:=by rw [hs,P7] at hsl;omega
   refine⟨_,rfl,_,rfl,_,rfl,_,rfl,l6 hS.vs ⟨_,rfl,_,rfl,_,rfl,_,rfl,_,rfl,_,rfl,rfl,aR rfl rfl (aR rfl rfl ⟨_,rfl,c7 rfl ?_⟩)⟩⟩;refine⟨fun p1 p2 p3 p4 p5 p6 p7 p8 p9 p10 p11 p12 p13 p14=>p1=ke k/\p2=gZ e x y a b q/\p3=gZ e' x' y' a' b' q'/\p4=Ic mv/\p5=.l (bs.map TV.b)/\p6=.l (ms.map (TV.i .i32))/\p7=jn k/\p8=sent'.map jn/\p9=got.map jn/\p10=jn i/\p11=jn v/\p12=jn who/\p13=jn was/\p14=jn j,?_,?_⟩
   ·refine⟨_,rfl,_,⟨j0 he' qxM,rfl⟩,_,rfl,_,kJ _,_,rfl,_,⟨j0 he qxe,rfl⟩,_,rfl,_,kJ _,_,DY _ _,cK (fun h=>?_) (fun h=>?_)⟩
    ·have hlt:q.length < q'.length:=vt h;rcases hse with ⟨_,w,rfl,rfl⟩|⟨hn,_⟩
     ·have qxQ:((q++[w]).map HC)[(q++[w]).length - 1]?=some (HC w):=by rw [PY,P7,P_,Nat.add_sub_cancel,PX (Qy _),Nat.sub_self];rfl
      exact⟨_,rfl,_,⟨j0 he' qxM,rfl⟩,_,rfl,_,rfl,_,⟨j0 he' qxM,rfl⟩,_,rfl,_,kJ _,_,IX (by omega) qxM,_,⟨jm qxQ,rfl⟩,_,rfl,rfl,rfl,_,rfl,rfl,_,GH w (by omega),rfl,rfl,rfl,rfl,rfl,rfl,rfl,rfl,rfl,rfl,rfl,rfl,rfl,rfl⟩
     ·exact absurd hlt hn
    ·have hge:q'.length<=q.length:=HY h;rcases hse with ⟨hn,_⟩|⟨_,rfl⟩
     ·omega
     ·exact⟨rfl,rfl,rfl,rfl,rfl,rfl,rfl,rfl,rfl,rfl,rfl,rfl,rfl,rfl⟩
   rintro p1 p2 p3 p4 p5 p6 p7 p8 p9 p10 p11 p12 p13 p14 ⟨rfl,rfl,rfl,rfl,rfl,rfl,rfl,rfl,rfl,rfl,rfl,rfl,rfl,rfl⟩;refine⟨fun p1 p2 p3 p4 p5 p6 p7 p8 p9 p10 p11 p12 p13 p14=>p1=ke k/\p2=gZ e x y a b q/\p3=gZ e' x' y' a' b' q'/\p4=Ic mv/\p5=.l (bs.map TV.b)/\p6=.l (ms.map (TV.i .i32))/\p7=jn k/\p8=sent'.map jn/\p9=qxT.map jn/\p10=jn i/\p11=jn v/\p12=jn who/\p13=jn was/\p14=jn j,?_,?_⟩
   ·refine⟨_,rfl,_,⟨j0 he' qxM,rfl⟩,_,rfl,_,kJ _,_,rfl,_,⟨j0 he qxe,rfl⟩,_,rfl,_,kJ _,_,pK _ _,cK (fun h=>?_) (fun h=>?_)⟩
    ·have hlt:q'.length < q.length:=vt h;rcases hgo with ⟨_,rfl⟩|⟨hn,_⟩
     ·exact⟨_,rfl,_,⟨JZ _ _,rfl⟩,_,rfl,_,⟨rfl,rfl⟩,_,rfl,rfl,rfl,_,rfl,rfl,_,GH b' hgl,rfl,rfl,rfl,rfl,rfl,rfl,rfl,rfl,rfl,rfl,rfl,rfl,rfl,rfl⟩
     ·exact absurd hlt hn
    ·have hge:q.length<=q'.length:=HY h;rcases hgo with ⟨hn,_⟩|⟨_,rfl⟩
     ·omega
     ·exact⟨rfl,rfl,rfl,rfl,rfl,rfl,rfl,rfl,rfl,rfl,rfl,rfl,rfl,rfl⟩
   rintro p1 p2 p3 p4 p5 p6 p7 p8 p9 p10 p11 p12 p13 p14 ⟨rfl,rfl,rfl,rfl,rfl,rfl,rfl,rfl,rfl,rfl,rfl,rfl,rfl,rfl⟩;have next:∃JP,JP < 4 - j/\∃(j' e:Nat) (x y a b:Int) (q sent got:List Int),j'<=4/\JP=4 - j'/\Lp k e x y a b q/\sent=got++q/\sent.length<=4*i+j'/\Prog k who was j' x y q/\ke k=ke k/\gZ e' x' y' a' b' q'=gZ e x y a b q/\TV.l (bs.map TV.b)=.l (bs.map TV.b)/\TV.l (ms.map (TV.i .i32))=.l (ms.map (TV.i .i32))/\jn k=jn k/\sent'.map jn=sent.map jn/\qxT.map jn=got.map jn/\jn i=jn i/\jn v=jn v/\jn who=jn who/\jn was=jn was/\jn ((j+1:Nat):Int)=jn j':=
    ⟨4 - (j+1),by omega,j+1,e',x',y',a',b',q',sent',qxT,by omega,rfl,hS.ok,hs',by omega,Bh hS hC.hk hP,rfl,rfl,rfl,rfl,rfl,rfl,rfl,rfl,rfl,rfl,rfl,rfl⟩
   cases mv with
   |true=>refine⟨_,rfl,_,rfl,(bg rfl (bg rfl (bg rfl ⟨rfl,(jq (jq ⟨rfl,(jq (jq (jq (jq (bg rfl (bg rfl (jq (jq (jq ⟨rfl,(jq (jq ⟨rfl,(jq (jq (jq (jq (bg rfl (bg rfl ⟨_,rfl,(c7 rfl ?_)⟩))))))⟩))⟩)))))))))⟩))⟩)))⟩;exact⟨_,rfl,_,rfl,_,pV (by omega),next⟩
   |false=>
    have hk2:who=0/\q.length=k\/who=1/\q.length=0:=by
     rcases hS.hc with ⟨_,h,_⟩|⟨_,_,_,h⟩|⟨_,_,h⟩|⟨_,_,h⟩
     ·cases h
     ·cases h
     ·cases h
     ·exact h
    rcases hk2 with ⟨rfl,hk⟩|⟨rfl,hk⟩
    ·refine⟨_,rfl,_,rfl,(aR rfl rfl (aR rfl rfl (aR rfl rfl ⟨rfl,(aR rfl rfl (aR rfl ⟨j0 he qxe,rfl⟩ ⟨rfl,(aR rfl rfl (aR rfl (kJ _) (aR rfl rfl (aR rfl (J7 hk) (aR rfl rfl (aR rfl rfl (bg rfl (bg rfl (bg rfl ⟨rfl,(jq (jq ⟨rfl,(jq (jq (jq (bg rfl (aR rfl rfl (aR rfl rfl ⟨_,rfl,(c7 rfl ?_)⟩))))))⟩))⟩)))))))))⟩))⟩)))⟩;exact⟨_,rfl,_,rfl,_,pV (by omega),next⟩
    ·refine⟨_,rfl,_,rfl,(aR rfl rfl (aR rfl rfl (aR rfl rfl ⟨rfl,(bg rfl (bg rfl ⟨rfl,(bg rfl (bg rfl (bg rfl (bg rfl (aR rfl rfl (aR rfl rfl (aR rfl rfl (aR rfl rfl (aR rfl rfl ⟨rfl,(aR rfl rfl (aR rfl ⟨j0 he qxe,rfl⟩ ⟨rfl,(aR rfl rfl (aR rfl (kJ _) (aR rfl (J8 hk) (aR rfl rfl (aR rfl rfl (aR rfl rfl ⟨_,rfl,(c7 rfl ?_)⟩))))))⟩))⟩)))))))))⟩))⟩)))⟩;exact⟨_,rfl,_,rfl,_,pV (by omega),next⟩
  ·have hj4:4<=j:=HY (n:=4) h4;obtain rfl:j=4:=by omega
   have p1:=Eh x;have p2:=Eg y;have next:∃m3,m3 < 50 - i/\∃(i' e':Nat) (x' y' a' b':Int) (q' sent' qxT:List Int),m3=50 - i'/\i'<=50/\Lp k e' x' y' a' b' q'/\sent'=qxT++q'/\sent'.length<=4*i'/\ke k=ke k/\gZ e x y a b q=gZ e' x' y' a' b' q'/\TV.l (bs.map TV.b)=.l (bs.map TV.b)/\TV.l (ms.map (TV.i .i32))=.l (ms.map (TV.i .i32))/\jn k=jn k/\sent.map jn=sent'.map jn/\got.map jn=qxT.map jn/\jn ((i+1:Nat):Int)=jn i':=
    ⟨50 - (i+1),by omega,i+1,e,x,y,a,b,q,sent,got,rfl,by omega,hC,hs,by omega,rfl,rfl,rfl,rfl,rfl,rfl,rfl,rfl⟩
   rcases qwD with rfl|rfl
   ·obtain⟨g1,g2⟩:=hP.1 rfl;cases hw:od (was:Int) (k:Int) with
    |true=>
     have hp:was < q.length:=by
      rcases g2 (vt hw) with h|h
      ·exact h
      ·omega
     refine⟨_,rfl,(aR rfl rfl (aR rfl rfl (aR rfl (pK _ _) ⟨_,rfl,⟨rfl,(aR hw rfl (aR hw ⟨j0 he qxe,rfl⟩ ⟨rfl,(aR hw rfl (aR hw (kJ _) (aR hw rfl (aR hw (JR hp) ⟨_,(Dj hw _ _),(aR rfl rfl (aR rfl rfl (aR rfl rfl (bg rfl (bg rfl (aR rfl rfl (aR rfl rfl ⟨rfl,(bg rfl (bg rfl ⟨rfl,(bg rfl (bg rfl (bg rfl (bg rfl (aR rfl rfl ⟨_,rfl,(c7 rfl ?_)⟩)))))⟩))⟩)))))))⟩))))⟩))⟩⟩)))⟩;exact⟨_,pV (by omega),next⟩
    |false=>refine⟨_,rfl,(aR rfl rfl (aR rfl rfl (aR rfl (pK _ _) ⟨_,rfl,⟨rfl,(bg hw (bg hw ⟨rfl,(bg hw (bg hw (bg hw (bg hw ⟨_,(Dk hw _ _),(aR rfl rfl (aR rfl rfl (aR rfl rfl (bg rfl (bg rfl (aR rfl rfl (aR rfl rfl ⟨rfl,(bg rfl (bg rfl ⟨rfl,(bg rfl (bg rfl (bg rfl (bg rfl (aR rfl rfl ⟨_,rfl,(c7 rfl ?_)⟩)))))⟩))⟩)))))))⟩))))⟩))⟩⟩)))⟩;exact⟨_,pV (by omega),next⟩
   ·obtain⟨g1,g2⟩:=hP.2 rfl;cases hw:od (0:Int) (was:Int) with
    |true=>
     have hp:q.length < was:=by
      rcases g2 (vt (i:=0) hw) with h|h
      ·exact h
      ·omega
     refine⟨_,rfl,(bg rfl (bg rfl (bg rfl ⟨_,rfl,⟨rfl,(bg rfl (bg rfl ⟨rfl,(bg rfl (bg rfl (bg rfl (bg rfl ⟨_,rfl,(aR rfl rfl (aR rfl rfl (aR rfl rfl (aR rfl rfl (aR rfl (DY _ _) (aR rfl rfl (aR rfl rfl ⟨rfl,(aR hw rfl (aR hw ⟨j0 he qxe,rfl⟩ ⟨rfl,(aR hw rfl (aR hw (kJ _) (aR hw rfl (aR hw (J3 hp) (aR rfl (Dj hw _ _) ⟨_,rfl,(c7 rfl ?_)⟩)))))⟩))⟩)))))))⟩))))⟩))⟩⟩)))⟩;exact⟨_,pV (by omega),next⟩
    |false=>refine⟨_,rfl,(bg rfl (bg rfl (bg rfl ⟨_,rfl,⟨rfl,(bg rfl (bg rfl ⟨rfl,(bg rfl (bg rfl (bg rfl (bg rfl ⟨_,rfl,(aR rfl rfl (aR rfl rfl (aR rfl rfl (aR rfl rfl (aR rfl (DY _ _) (aR rfl rfl (aR rfl rfl ⟨rfl,(bg hw (bg hw ⟨rfl,(bg hw (bg hw (bg hw (bg hw (aR rfl (Dk hw _ _) ⟨_,rfl,(c7 rfl ?_)⟩)))))⟩))⟩)))))))⟩))))⟩))⟩⟩)))⟩;exact⟨_,pV (by omega),next⟩
end Go.Ax.dR
end
