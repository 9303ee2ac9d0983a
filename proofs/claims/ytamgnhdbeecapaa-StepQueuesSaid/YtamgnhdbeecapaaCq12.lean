/- Part 12 of the proof: LqQc. -/
import Derived.Test.YtamgnhdbeecapaaCq11
set_option linter.unusedSimpArgs false
set_option linter.unusedVariables false
set_option maxRecDepth 100000
namespace Go.Ax.dR
open Go Go.Ax Go.Ax.V
theorem F0:∀(e:Nat) (q:List Int),e<=2->q.length<=16->∀(k:Nat) (y a b n:Int),fQ prog 1000 73 [sA k,cA e 0 y a b q,pA 0 n]=some (.dM [cA (nE e) 2 y a b q,dA true])
 |0,[],_,_=>fun k y a b n=>by kernel_rfl
 |1,[],_,_=>fun k y a b n=>by kernel_rfl
 |2,[],_,_=>fun k y a b n=>by kernel_rfl
 |e+3,[],h,_=>by omega
 |e,[v0],_,_=>fun k y a b n=>by kernel_rfl
 |e,[v0,v1],_,_=>fun k y a b n=>by kernel_rfl
 |e,[v0,v1,v2],_,_=>fun k y a b n=>by kernel_rfl
 |e,[v0,v1,v2,v3],_,_=>fun k y a b n=>by kernel_rfl
 |e,[v0,v1,v2,v3,v4],_,_=>fun k y a b n=>by kernel_rfl
 |e,[v0,v1,v2,v3,v4,v5],_,_=>fun k y a b n=>by kernel_rfl
 |e,[v0,v1,v2,v3,v4,v5,v6],_,_=>fun k y a b n=>by kernel_rfl
 |e,[v0,v1,v2,v3,v4,v5,v6,v7],_,_=>fun k y a b n=>by kernel_rfl
 |e,[v0,v1,v2,v3,v4,v5,v6,v7,v8],_,_=>fun k y a b n=>by kernel_rfl
 |e,[v0,v1,v2,v3,v4,v5,v6,v7,v8,v9],_,_=>fun k y a b n=>by kernel_rfl
 |e,[v0,v1,v2,v3,v4,v5,v6,v7,v8,v9,v10],_,_=>fun k y a b n=>by kernel_rfl
 |e,[v0,v1,v2,v3,v4,v5,v6,v7,v8,v9,v10,v11],_,_=>fun k y a b n=>by kernel_rfl
 |e,[v0,v1,v2,v3,v4,v5,v6,v7,v8,v9,v10,v11,v12],_,_=>fun k y a b n=>by kernel_rfl
 |e,[v0,v1,v2,v3,v4,v5,v6,v7,v8,v9,v10,v11,v12,v13],_,_=>fun k y a b n=>by kernel_rfl
 |e,[v0,v1,v2,v3,v4,v5,v6,v7,v8,v9,v10,v11,v12,v13,v14],_,_=>fun k y a b n=>by kernel_rfl
 |e,[v0,v1,v2,v3,v4,v5,v6,v7,v8,v9,v10,v11,v12,v13,v14,v15],_,_=>fun k y a b n=>by kernel_rfl
 |e,_::_::_::_::_::_::_::_::_::_::_::_::_::_::_::_::_::q,_,h=>by simp at h<;>omega
theorem F2:∀(e:Nat) (q:List Int),e<=2->q.length<=16->∀(k:Nat) (y a b n:Int),fQ prog 1000 73 [sA k,cA e 2 y a b q,pA 0 n]=some (.dM [cA (nE e) 3 y (wI n) b q,dA true])
 |0,[],_,_=>fun k y a b n=>by kernel_rfl
 |1,[],_,_=>fun k y a b n=>by kernel_rfl
 |2,[],_,_=>fun k y a b n=>by kernel_rfl
 |e+3,[],h,_=>by omega
 |e,[v0],_,_=>fun k y a b n=>by kernel_rfl
 |e,[v0,v1],_,_=>fun k y a b n=>by kernel_rfl
 |e,[v0,v1,v2],_,_=>fun k y a b n=>by kernel_rfl
 |e,[v0,v1,v2,v3],_,_=>fun k y a b n=>by kernel_rfl
 |e,[v0,v1,v2,v3,v4],_,_=>fun k y a b n=>by kernel_rfl
 |e,[v0,v1,v2,v3,v4,v5],_,_=>fun k y a b n=>by kernel_rfl
 |e,[v0,v1,v2,v3,v4,v5,v6],_,_=>fun k y a b n=>by kernel_rfl
 |e,[v0,v1,v2,v3,v4,v5,v6,v7],_,_=>fun k y a b n=>by kernel_rfl
 |e,[v0,v1,v2,v3,v4,v5,v6,v7,v8],_,_=>fun k y a b n=>by kernel_rfl
 |e,[v0,v1,v2,v3,v4,v5,v6,v7,v8,v9],_,_=>fun k y a b n=>by kernel_rfl
 |e,[v0,v1,v2,v3,v4,v5,v6,v7,v8,v9,v10],_,_=>fun k y a b n=>by kernel_rfl
 |e,[v0,v1,v2,v3,v4,v5,v6,v7,v8,v9,v10,v11],_,_=>fun k y a b n=>by kernel_rfl
 |e,[v0,v1,v2,v3,v4,v5,v6,v7,v8,v9,v10,v11,v12],_,_=>fun k y a b n=>by kernel_rfl
 |e,[v0,v1,v2,v3,v4,v5,v6,v7,v8,v9,v10,v11,v12,v13],_,_=>fun k y a b n=>by kernel_rfl
 |e,[v0,v1,v2,v3,v4,v5,v6,v7,v8,v9,v10,v11,v12,v13,v14],_,_=>fun k y a b n=>by kernel_rfl
 |e,[v0,v1,v2,v3,v4,v5,v6,v7,v8,v9,v10,v11,v12,v13,v14,v15],_,_=>fun k y a b n=>by kernel_rfl
 |e,_::_::_::_::_::_::_::_::_::_::_::_::_::_::_::_::_::q,_,h=>by simp at h<;>omega
theorem PT:∀(e:Nat) (q:List Int),e<=2->1<=q.length->q.length<=16->∀(y a b n:Int),fQ prog 1000 73 [sA q.length,cA e 3 y a b q,pA 0 n]=some (.dM [cA (nE e) 3 y a b q,dA false])
 |e,[],_,h,_=>by simp at h
 |e,[v0],_,_,_=>fun y a b n=>by kernel_rfl
 |e,[v0,v1],_,_,_=>fun y a b n=>by kernel_rfl
 |e,[v0,v1,v2],_,_,_=>fun y a b n=>by kernel_rfl
 |e,[v0,v1,v2,v3],_,_,_=>fun y a b n=>by kernel_rfl
 |e,[v0,v1,v2,v3,v4],_,_,_=>fun y a b n=>by kernel_rfl
 |e,[v0,v1,v2,v3,v4,v5],_,_,_=>fun y a b n=>by kernel_rfl
 |e,[v0,v1,v2,v3,v4,v5,v6],_,_,_=>fun y a b n=>by kernel_rfl
 |e,[v0,v1,v2,v3,v4,v5,v6,v7],_,_,_=>fun y a b n=>by kernel_rfl
 |e,[v0,v1,v2,v3,v4,v5,v6,v7,v8],_,_,_=>fun y a b n=>by kernel_rfl
 |e,[v0,v1,v2,v3,v4,v5,v6,v7,v8,v9],_,_,_=>fun y a b n=>by kernel_rfl
 |e,[v0,v1,v2,v3,v4,v5,v6,v7,v8,v9,v10],_,_,_=>fun y a b n=>by kernel_rfl
 |e,[v0,v1,v2,v3,v4,v5,v6,v7,v8,v9,v10,v11],_,_,_=>fun y a b n=>by kernel_rfl
 |e,[v0,v1,v2,v3,v4,v5,v6,v7,v8,v9,v10,v11,v12],_,_,_=>fun y a b n=>by kernel_rfl
 |e,[v0,v1,v2,v3,v4,v5,v6,v7,v8,v9,v10,v11,v12,v13],_,_,_=>fun y a b n=>by kernel_rfl
 |e,[v0,v1,v2,v3,v4,v5,v6,v7,v8,v9,v10,v11,v12,v13,v14],_,_,_=>fun y a b n=>by kernel_rfl
 |e,[v0,v1,v2,v3,v4,v5,v6,v7,v8,v9,v10,v11,v12,v13,v14,v15],_,_,_=>fun y a b n=>by kernel_rfl
 |e,_::_::_::_::_::_::_::_::_::_::_::_::_::_::_::_::_::q,_,_,h=>by simp at h<;>omega
theorem G0:∀(e:Nat) (q:List Int),e<=2->q.length<=16->∀(k:Nat) (x a b n:Int),fQ prog 1000 73 [sA k,cA e x 0 a b q,pA 1 n]=some (.dM [cA (nE e) x 2 a b q,dA true])
 |0,[],_,_=>fun k x a b n=>by kernel_rfl
 |1,[],_,_=>fun k x a b n=>by kernel_rfl
 |2,[],_,_=>fun k x a b n=>by kernel_rfl
 |e+3,[],h,_=>by omega
 |e,[v0],_,_=>fun k x a b n=>by kernel_rfl
 |e,[v0,v1],_,_=>fun k x a b n=>by kernel_rfl
 |e,[v0,v1,v2],_,_=>fun k x a b n=>by kernel_rfl
 |e,[v0,v1,v2,v3],_,_=>fun k x a b n=>by kernel_rfl
 |e,[v0,v1,v2,v3,v4],_,_=>fun k x a b n=>by kernel_rfl
 |e,[v0,v1,v2,v3,v4,v5],_,_=>fun k x a b n=>by kernel_rfl
 |e,[v0,v1,v2,v3,v4,v5,v6],_,_=>fun k x a b n=>by kernel_rfl
 |e,[v0,v1,v2,v3,v4,v5,v6,v7],_,_=>fun k x a b n=>by kernel_rfl
 |e,[v0,v1,v2,v3,v4,v5,v6,v7,v8],_,_=>fun k x a b n=>by kernel_rfl
 |e,[v0,v1,v2,v3,v4,v5,v6,v7,v8,v9],_,_=>fun k x a b n=>by kernel_rfl
 |e,[v0,v1,v2,v3,v4,v5,v6,v7,v8,v9,v10],_,_=>fun k x a b n=>by kernel_rfl
 |e,[v0,v1,v2,v3,v4,v5,v6,v7,v8,v9,v10,v11],_,_=>fun k x a b n=>by kernel_rfl
 |e,[v0,v1,v2,v3,v4,v5,v6,v7,v8,v9,v10,v11,v12],_,_=>fun k x a b n=>by kernel_rfl
 |e,[v0,v1,v2,v3,v4,v5,v6,v7,v8,v9,v10,v11,v12,v13],_,_=>fun k x a b n=>by kernel_rfl
 |e,[v0,v1,v2,v3,v4,v5,v6,v7,v8,v9,v10,v11,v12,v13,v14],_,_=>fun k x a b n=>by kernel_rfl
 |e,[v0,v1,v2,v3,v4,v5,v6,v7,v8,v9,v10,v11,v12,v13,v14,v15],_,_=>fun k x a b n=>by kernel_rfl
 |e,_::_::_::_::_::_::_::_::_::_::_::_::_::_::_::_::_::q,_,h=>by simp at h<;>omega
theorem G3:∀(e:Nat) (q:List Int),e<=2->q.length<=16->∀(k:Nat) (x a b n:Int),fQ prog 1000 73 [sA k,cA e x 3 a b q,pA 1 n]=some (.dM [cA (nE e) x 0 a b q,dA true])
 |0,[],_,_=>fun k x a b n=>by kernel_rfl
 |1,[],_,_=>fun k x a b n=>by kernel_rfl
 |2,[],_,_=>fun k x a b n=>by kernel_rfl
 |e+3,[],h,_=>by omega
 |e,[v0],_,_=>fun k x a b n=>by kernel_rfl
 |e,[v0,v1],_,_=>fun k x a b n=>by kernel_rfl
 |e,[v0,v1,v2],_,_=>fun k x a b n=>by kernel_rfl
 |e,[v0,v1,v2,v3],_,_=>fun k x a b n=>by kernel_rfl
 |e,[v0,v1,v2,v3,v4],_,_=>fun k x a b n=>by kernel_rfl
 |e,[v0,v1,v2,v3,v4,v5],_,_=>fun k x a b n=>by kernel_rfl
 |e,[v0,v1,v2,v3,v4,v5,v6],_,_=>fun k x a b n=>by kernel_rfl
 |e,[v0,v1,v2,v3,v4,v5,v6,v7],_,_=>fun k x a b n=>by kernel_rfl
 |e,[v0,v1,v2,v3,v4,v5,v6,v7,v8],_,_=>fun k x a b n=>by kernel_rfl
 |e,[v0,v1,v2,v3,v4,v5,v6,v7,v8,v9],_,_=>fun k x a b n=>by kernel_rfl
 |e,[v0,v1,v2,v3,v4,v5,v6,v7,v8,v9,v10],_,_=>fun k x a b n=>by kernel_rfl
 |e,[v0,v1,v2,v3,v4,v5,v6,v7,v8,v9,v10,v11],_,_=>fun k x a b n=>by kernel_rfl
 |e,[v0,v1,v2,v3,v4,v5,v6,v7,v8,v9,v10,v11,v12],_,_=>fun k x a b n=>by kernel_rfl
 |e,[v0,v1,v2,v3,v4,v5,v6,v7,v8,v9,v10,v11,v12,v13],_,_=>fun k x a b n=>by kernel_rfl
 |e,[v0,v1,v2,v3,v4,v5,v6,v7,v8,v9,v10,v11,v12,v13,v14],_,_=>fun k x a b n=>by kernel_rfl
 |e,[v0,v1,v2,v3,v4,v5,v6,v7,v8,v9,v10,v11,v12,v13,v14,v15],_,_=>fun k x a b n=>by kernel_rfl
 |e,_::_::_::_::_::_::_::_::_::_::_::_::_::_::_::_::_::q,_,h=>by simp at h<;>omega
theorem PS:∀(e:Nat),e<=2->∀(k:Nat) (x a b n:Int),fQ prog 1000 73 [sA k,cA e x 2 a b [],pA 1 n]=some (.dM [cA (nE e) x 2 a b [],dA false])
 |0,_=>fun k x a b n=>by kernel_rfl
 |1,_=>fun k x a b n=>by kernel_rfl
 |2,_=>fun k x a b n=>by kernel_rfl
 |e+3,h=>by omega
theorem G2:∀(e:Nat) (q:List Int),e<=2->1<=q.length->q.length<=16->∀(k:Nat) (x a b n:Int),fQ prog 1000 73 [sA k,cA e x 2 a b q,pA 1 n]=some (.dM [cA 1 x 3 a (q.headD 0) q.tail,dA true])
 |e,[],_,h,_=>by simp at h
 |e,[v0],_,_,_=>fun k x a b n=>by kernel_rfl
 |e,[v0,v1],_,_,_=>fun k x a b n=>by kernel_rfl
 |e,[v0,v1,v2],_,_,_=>fun k x a b n=>by kernel_rfl
 |e,[v0,v1,v2,v3],_,_,_=>fun k x a b n=>by kernel_rfl
 |e,[v0,v1,v2,v3,v4],_,_,_=>fun k x a b n=>by kernel_rfl
 |e,[v0,v1,v2,v3,v4,v5],_,_,_=>fun k x a b n=>by kernel_rfl
 |e,[v0,v1,v2,v3,v4,v5,v6],_,_,_=>fun k x a b n=>by kernel_rfl
 |e,[v0,v1,v2,v3,v4,v5,v6,v7],_,_,_=>fun k x a b n=>by kernel_rfl
 |e,[v0,v1,v2,v3,v4,v5,v6,v7,v8],_,_,_=>fun k x a b n=>by kernel_rfl
 |e,[v0,v1,v2,v3,v4,v5,v6,v7,v8,v9],_,_,_=>fun k x a b n=>by kernel_rfl
 |e,[v0,v1,v2,v3,v4,v5,v6,v7,v8,v9,v10],_,_,_=>fun k x a b n=>by kernel_rfl
 |e,[v0,v1,v2,v3,v4,v5,v6,v7,v8,v9,v10,v11],_,_,_=>fun k x a b n=>by kernel_rfl
 |e,[v0,v1,v2,v3,v4,v5,v6,v7,v8,v9,v10,v11,v12],_,_,_=>fun k x a b n=>by kernel_rfl
 |e,[v0,v1,v2,v3,v4,v5,v6,v7,v8,v9,v10,v11,v12,v13],_,_,_=>fun k x a b n=>by kernel_rfl
 |e,[v0,v1,v2,v3,v4,v5,v6,v7,v8,v9,v10,v11,v12,v13,v14],_,_,_=>fun k x a b n=>by kernel_rfl
 |e,[v0,v1,v2,v3,v4,v5,v6,v7,v8,v9,v10,v11,v12,v13,v14,v15],_,_,_=>fun k x a b n=>by kernel_rfl
 |e,_::_::_::_::_::_::_::_::_::_::_::_::_::_::_::_::_::q,_,_,h=>by simp at h<;>omega
end Go.Ax.dR
