/- Part 14 of the proof: LqQg. -/
import Derived.Test.YtamgnhdbeecapaaCq13
set_option linter.unusedSimpArgs false
set_option linter.unusedVariables false
noncomputable section
set_option maxRecDepth 100000
namespace Go.Ax.dR
open Go Go.Ax Go.Ax.V
theorem G9 (n:Int):∃j:Nat,j < 16/\cG .i64 (1+cG .i64 ((cG .u64 n).tmod 16))=Int.ofNat (Nat.succ j):=by have h1:=wf_wrap .u64 n;rw [←je] at h1;have h2:=bounds_u64 h1;have h3:=Int.tmod_nonneg 16 (show (0:Int)<=cG .u64 n by omega);have h4:=Int.tmod_lt_of_pos (cG .u64 n) (show (0:Int) < 16 by decide);refine⟨((cG .u64 n).tmod 16).toNat,by omega,?_⟩;rw [m4 (n:=(cG .u64 n).tmod 16) (by omega) (by omega),m4 (by omega) (by omega)];show _=((Nat.succ ((cG .u64 n).tmod 16).toNat:Nat):Int);omega
def He:List bR:=[.aa Gu,.aa Gt]
def preB:List bR:=[.aa Gs,.aa Gq,.aa Gp,.aa Gn,.seq (.aa Gm) (.cond (.t 77) (.seq (.aa Gl) .ret) .skip)]
def E1 (n:Int) (a b:AV) (k:Int):St:=⟨(((((((cI [zI n,a,b] 0 .leaf).put (some (.bool false)) 6).put (some (zI n)) 26).put (some (.int .u64 (cG .u64 n))) 27).put (some (.int .u64 ((cG .u64 n).tmod 16))) 28).put (some (zI (cG .i64 ((cG .u64 n).tmod 16)))) 29).put (some (zI k)) 30).put (some (zI k)) 7,.leaf,0⟩
theorem Pp (n:Int) (a b:AV):cT (interp prog 1000).code 270 He ⟨cI [zI n,a,b] 0 .leaf,.leaf,0⟩=some (E1 n a b (cG .i64 (1+cG .i64 ((cG .u64 n).tmod 16)))):=by kernel_rfl
structure BZ where
 Nk:Option AV
 Nj:Option AV
 e1:Option AV
 e2:Option AV
 e7:Option AV
 h3:Option dU
 h4:Option dU
 old:Bool
def obs (st:St):BZ:=⟨st.env.get 11,st.env.get 13,st.env.get 1,st.env.get 2,st.env.get 7,st.H.get 3,st.H.get 4,y6 st.H fun i=>Nat.blt i st.nx⟩
def want (a b:AV) (k:Nat):BZ:=⟨some (.ptr 3 0 0),some (.ptr 4 0 0),some a,some b,some (zN k),some (.row 0 [Lt k,Ls,Lr]),some (.row 0 [Kh 0 0,ID 0 0,Ih 0 [],Kg]),true⟩
def j6 (o:Option St):Option BZ:=match o with
 |some st=>some (obs st)
 |none=>none
theorem PB (n:Int) (a b:AV):j6 (cT (interp prog 1000).code 270 preB (E1 n a b (Int.ofNat (Nat.succ 0))))=some (want a b (Nat.succ 0)):=by kernel_rfl
theorem PA (n:Int) (a b:AV):j6 (cT (interp prog 1000).code 270 preB (E1 n a b (Int.ofNat (Nat.succ 1))))=some (want a b (Nat.succ 1)):=by kernel_rfl
theorem Pz (n:Int) (a b:AV):j6 (cT (interp prog 1000).code 270 preB (E1 n a b (Int.ofNat (Nat.succ 2))))=some (want a b (Nat.succ 2)):=by kernel_rfl
theorem Py (n:Int) (a b:AV):j6 (cT (interp prog 1000).code 270 preB (E1 n a b (Int.ofNat (Nat.succ 3))))=some (want a b (Nat.succ 3)):=by kernel_rfl
theorem Px (n:Int) (a b:AV):j6 (cT (interp prog 1000).code 270 preB (E1 n a b (Int.ofNat (Nat.succ 4))))=some (want a b (Nat.succ 4)):=by kernel_rfl
theorem Pw (n:Int) (a b:AV):j6 (cT (interp prog 1000).code 270 preB (E1 n a b (Int.ofNat (Nat.succ 5))))=some (want a b (Nat.succ 5)):=by kernel_rfl
theorem Pv (n:Int) (a b:AV):j6 (cT (interp prog 1000).code 270 preB (E1 n a b (Int.ofNat (Nat.succ 6))))=some (want a b (Nat.succ 6)):=by kernel_rfl
theorem Pu (n:Int) (a b:AV):j6 (cT (interp prog 1000).code 270 preB (E1 n a b (Int.ofNat (Nat.succ 7))))=some (want a b (Nat.succ 7)):=by kernel_rfl
theorem Pt (n:Int) (a b:AV):j6 (cT (interp prog 1000).code 270 preB (E1 n a b (Int.ofNat (Nat.succ 8))))=some (want a b (Nat.succ 8)):=by kernel_rfl
theorem Pq (n:Int) (a b:AV):j6 (cT (interp prog 1000).code 270 preB (E1 n a b (Int.ofNat (Nat.succ 9))))=some (want a b (Nat.succ 9)):=by kernel_rfl
theorem M0 (n:Int) (a b:AV):j6 (cT (interp prog 1000).code 270 preB (E1 n a b (Int.ofNat (Nat.succ 10))))=some (want a b (Nat.succ 10)):=by kernel_rfl
theorem MZ (n:Int) (a b:AV):j6 (cT (interp prog 1000).code 270 preB (E1 n a b (Int.ofNat (Nat.succ 11))))=some (want a b (Nat.succ 11)):=by kernel_rfl
theorem MY (n:Int) (a b:AV):j6 (cT (interp prog 1000).code 270 preB (E1 n a b (Int.ofNat (Nat.succ 12))))=some (want a b (Nat.succ 12)):=by kernel_rfl
theorem MX (n:Int) (a b:AV):j6 (cT (interp prog 1000).code 270 preB (E1 n a b (Int.ofNat (Nat.succ 13))))=some (want a b (Nat.succ 13)):=by kernel_rfl
theorem MW (n:Int) (a b:AV):j6 (cT (interp prog 1000).code 270 preB (E1 n a b (Int.ofNat (Nat.succ 14))))=some (want a b (Nat.succ 14)):=by kernel_rfl
theorem MV (n:Int) (a b:AV):j6 (cT (interp prog 1000).code 270 preB (E1 n a b (Int.ofNat (Nat.succ 15))))=some (want a b (Nat.succ 15)):=by kernel_rfl
theorem pf:∀(j:Nat),j<=15->∀(n:Int) (a b:AV),j6 (cT (interp prog 1000).code 270 preB (E1 n a b (Int.ofNat (Nat.succ j))))=some (want a b (Nat.succ j))
 |0,_=>PB
 |1,_=>PA
 |2,_=>Pz
 |3,_=>Py
 |4,_=>Px
 |5,_=>Pw
 |6,_=>Pv
 |7,_=>Pu
 |8,_=>Pt
 |9,_=>Pq
 |10,_=>M0
 |11,_=>MZ
 |12,_=>MY
 |13,_=>MX
 |14,_=>MW
 |15,_=>MV
 |j+16,h=>by omega
theorem Bo {o:Option St} {x:BZ} (h:j6 o=some x):∃st,o=some st/\obs st=x:=by
 cases o with
 |none=>cases h
 |some st=>exact⟨st,rfl,by injection h⟩
theorem law (n:Int) (bs:List Bool) (ms:List Int) (a b:AV) (ha:V.Can (.l (bs.map TV.b)) a) (hb:V.Can (.l (ms.map (TV.i .i32))) b):isTrue (aN prog 16 [zI n,a,b] .leaf 0)=true:=by
 obtain⟨j,hj,e⟩:=G9 n;obtain⟨st,h1,h2⟩:=Bo (pf j (by omega) n a b);have hL:=Pp n a b;rw [e] at hL;have Nk:st.env.get 11=some (.ptr 3 0 0):=congrArg BZ.Nk h2;have Nj:st.env.get 13=some (.ptr 4 0 0):=congrArg BZ.Nj h2;have e1:st.env.get 1=some a:=congrArg BZ.e1 h2;have e2:st.env.get 2=some b:=congrArg BZ.e2 h2;have e7:st.env.get 7=some (zN (j+1)):=congrArg BZ.e7 h2;have q3:st.H.get 3=some (.row 0 [Lt (j+1),Ls,Lr]):=congrArg BZ.h3 h2;have q4:st.H.get 4=some (.row 0 [Kh 0 0,ID 0 0,Ih 0 [],Kg]):=congrArg BZ.h4 h2;have hold:y6 st.H (fun i=>Nat.blt i st.nx)=true:=congrArg BZ.old h2;refine HP (k:=1000) (l:=He++preB) (vc:=E5) (st:=st) (lo:=[(11,ke (j+1),3),(13,gZ 0 0 0 0 0 [],4)]) (live:=[(1,.l (bs.map TV.b)),(2,.l (ms.map (TV.i .i32))),(7,jn ((j+1:Nat):Int))]) (r:=.tmp 6) (af:=Il) (by kernel_rfl) rfl (by kernel_rfl) rfl (by kernel_rfl) tq ?_ ?_ ?_ (show ([11,13]:List Nat).Nodup by decide) (show ([3,4]:List Nat).Nodup by decide) hold
  (Ly _ _ _ _ _ 3 4 (fun r=>r=.b true) (qm (by omega) (by omega) bs ms))
 ·intro x hx;exact qS (k:=1000) (l:=He) (suf:=Cm preB E5.code) hL (qS (k:=1000) h1 hx)
 ·intro p hp;rcases Qf.1 hp with rfl|hp
  ·exact⟨a,e1,ha⟩
  ·rcases Qf.1 hp with rfl|hp
   ·exact⟨b,e2,hb⟩
   ·rw [Qh.1 hp];exact⟨_,e7,.i _ _⟩
 ·intro p hp;rcases Qf.1 hp with rfl|hp
  ·exact⟨Nk,_,_,rfl,q3,F7 (j+1)⟩
  ·rw [Qh.1 hp];exact⟨Nj,_,_,rfl,q4,AY 0 0 0 0 (by omega) (by simp)⟩
end Go.Ax.dR
end
