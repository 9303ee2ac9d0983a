/- Values without memory, and what a function answers over them, told by what must hold: definitions. -/
import Derived.Test.YtamgnhdbeecapaaAx27
set_option linter.unusedVariables false
namespace Go.Ax.V

/-! ### 1. Values without memory -/
inductive TV where
  | i (k : IntKind) (n : Int)
  | b (b : Bool)
  | s (s : ByteArray)
  | f (n : Nat)
  | np
  | l (es : List TV)
  | a (cs : List TV)
  | tp (vs : List TV)
  deriving Inhabited

/-- nothing: what an operation gives that was not asked for -/
abbrev noT : TV := .tp []
def TV.isTp : TV → Bool
  | .tp _ => true
  | _ => false
def TV.one : TV → Bool
  | .a _ => false
  | .tp _ => false
  | _ => true

/-- a value that leads to no slice -/
noncomputable def TV.scal1 : TV → Bool
  | .a cs => allB (fun c => match c with | .l _ => false | .a _ => false | .tp _ => false | _ => true) cs
  | .l _ => false
  | .tp _ => false
  | _ => true
noncomputable def TV.scal : TV → Bool
  | .tp vs => allB TV.scal1 vs
  | v => v.scal1

/- A value stands for one of the interpreter's, in which all is in trees. -/
mutual
inductive Can : TV → AV → Prop where
  | i (k : IntKind) (n : Int) : Can (.i k n) (.int k n)
  | b (x : Bool) : Can (.b x) (.bool x)
  | s (x : ByteArray) : Can (.s x) (.str x)
  | f (n : Nat) : Can (.f n) (.func n)
  | np : Can .np .nilp
  | nil : Can (.l []) .nils
  | imm (es : List TV) (cs : List AV) (n sz : Nat) (c : Option Nat) (hn : es.length = n) (hc : cs.length = n * sz) (hz : 0 < sz) (hf : ∀ x ∈ cs, AV.flat x = true)
      (h : ∀ (j : Nat) (e : TV), es[j]? = some e → CanC e ((cs.drop (j * sz)).take sz)) : Can (.l es) (.imm cs n c)
  | a (ts : List TV) (as : List AV) (hl : ts.length = as.length) (hf : ∀ x ∈ as, AV.flat x = true) (h : ∀ (j : Nat) (t : TV) (x : AV), ts[j]? = some t → as[j]? = some x → Can t x) : Can (.a ts) (.agg as)
  | tp (ts : List TV) (as : List AV) (hl : ts.length = as.length) (hf : ∀ x ∈ as, AV.plain1 x = true) (h : ∀ (j : Nat) (t : TV) (x : AV), ts[j]? = some t → as[j]? = some x → Can t x) : Can (.tp ts) (.tup as)
/-- a value stands for cells -/
inductive CanC : TV → List AV → Prop where
  | one (e : TV) (x : AV) (h1 : e.one = true) (h : Can e x) : CanC e [x]
  | a (ts : List TV) (as : List AV) (hl : ts.length = as.length) (h : ∀ (j : Nat) (t : TV) (x : AV), ts[j]? = some t → as[j]? = some x → Can t x) : CanC (.a ts) as
end

/-! ### 2. What operations make of values -/
def cellsT : TV → Option (List TV)
  | .a cs => some cs
  | .tp _ => none
  | v => some [v]
def cellT (v : TV) (off : Nat) : Option TV := match v with
  | .a cs => cs[off]?
  | .tp _ => none
  | v => match off with
    | 0 => some v
    | _ + 1 => none
def firstT : List TV → Nat → Option (List TV)
  | _, 0 => some []
  | [], _ + 1 => none
  | x :: xs, n + 1 => match firstT xs n with
    | some l => some (x :: l)
    | none => none
def cutT : List TV → Nat → Nat → Option (List TV)
  | cs, 0, n => firstT cs n
  | [], _ + 1, _ => none
  | _ :: xs, o + 1, n => cutT xs o n
def overFT : List TV → List TV → Option (List TV)
  | cells, [] => some cells
  | [], _ :: _ => none
  | _ :: xs, y :: ys => match overFT xs ys with
    | some l => some (y :: l)
    | none => none
def overT : List TV → Nat → List TV → Option (List TV)
  | cells, 0, cs => overFT cells cs
  | [], _ + 1, _ => none
  | x :: xs, o + 1, cs => match overT xs o cs with
    | some l => some (x :: l)
    | none => none
def subT (v : TV) (off n : Nat) : Option TV := match v with
  | .a cs => match cutT cs off n with
    | some l => some (.a l)
    | none => none
  | _ => none
/-- the value whose n cells from `off` on are those of x -/
def putT (v : TV) (off n : Nat) (x : TV) : Option TV := match cellsT x with
  | none => none
  | some xs => bif Nat.beq xs.length n then match v with
      | .a cs => match overT cs off xs with
        | some l => some (.a l)
        | none => none
      | .tp _ => none
      | _ => bif Nat.beq off 0 && x.one then some x else none
    else none
/-- a load: one cell, or n cells -/
def ldT (v : TV) (off : Nat) : Option Nat → Option TV
  | none => cellT v off
  | some n => subT v off n
def fldT (v : TV) (off : Nat) (sz : Option Nat) : Option TV := match v with
  | .a _ => ldT v off sz
  | _ => none
def listT : TV → Option (List TV)
  | .l es => some es
  | _ => none
def lenT : TV → Option TV
  | .l es => some (.i .i64 es.length)
  | _ => none
def slenT : TV → Option TV
  | .s x => some (.i .i64 x.size)
  | _ => none
def ixN (i : TV) (n : Nat) : Option Nat := match i with
  | .i _ m => ixA m n
  | _ => none
def idxT (v i : TV) : Option TV := match v with
  | .l es => match ixN i es.length with
    | some k => es[k]?
    | none => none
  | _ => none
def extT (i : Nat) : TV → Option TV
  | .tp vs => vs[i]?
  | _ => none
def bdT (x : Option TV) (other y : Nat) : Option Nat := match x with
  | none => some other
  | some (.i _ i) => bdA i y
  | some _ => none
def bdsT (lo hi : Option TV) (n : Nat) : Option (Nat × Nat) := match bdT hi n n with
  | none => none
  | some h => match bdT lo 0 h with
    | none => none
    | some l => some (l, h)
def slT (v : TV) (lo hi : Option TV) : Option TV := match v with
  | .l es => match bdsT lo hi es.length with
    | some (l, h) => some (.l ((es.drop l).take (h - l)))
    | none => none
  | _ => none
def slstrT (v : TV) (lo hi : Option TV) : Option TV := match v with
  | .s x => match bdsT lo hi x.size with
    | some (l, h) => some (.s (x.extract l h))
    | none => none
  | _ => none
def idxST (v i : TV) : Option TV := match v with
  | .s x => match i with
    | .i _ (.ofNat i) => match x[i]? with
      | some b => some (.i .u8 b.toNat)
      | none => none
    | _ => none
  | _ => none
def appT (bytes : Nat) (es xs : List TV) : Option (List TV) :=
  bif Nat.ble ((es.length + xs.length) * bytes) most && Nat.ble (es.length + xs.length) most then some (es ++ xs) else none
def pickT (c a b : TV) : Option TV := match c with
  | .b x => match x with
    | true => some a
    | false => some b
  | _ => none
def flatA : TV → Option AV
  | .i k n => some (.int k n)
  | .b x => some (.bool x)
  | .s x => some (.str x)
  | .f n => some (.func n)
  | .np => some .nilp
  | _ => none
def flatV : AV → Option TV
  | .int k n => some (.i k n)
  | .bool x => some (.b x)
  | .str x => some (.s x)
  | .func n => some (.f n)
  | .nilp => some .np
  | _ => none
def binT (op : BinOp) (x y : TV) : Option TV := match flatA x with
  | some x => match flatA y with
    | some y => match binA op x y with
      | some r => flatV r
      | none => none
    | none => none
  | none => none
def unT (op : UnOp) (x : TV) : Option TV := match flatA x with
  | some x => match unA op x with
    | some r => flatV r
    | none => none
  | none => none
def convT (k : IntKind) : TV → Option TV
  | .i _ n => some (.i k (wrapA k n))
  | _ => none
def flatAs : List TV → Option (List AV)
  | [] => some []
  | x :: xs => match flatA x with
    | none => none
    | some a => match flatAs xs with
      | none => none
      | some l => some (a :: l)
def mnxT (mx : Bool) (xs : List TV) : Option TV := match flatAs xs with
  | some (v :: vs) => match mnA mx v vs with
    | some r => flatV r
    | none => none
  | _ => none
noncomputable def eqT (t : EqT) (neg : Bool) (x y : TV) : Option TV := match t with
  | .one l => match flatA x with
    | some x => match flatA y with
      | some y => match eqS l x y with
        | some b => some (.b (match neg with | true => !b | false => b))
        | none => none
      | none => none
    | none => none
  | .agg ls => match x with
    | .a xs => match y with
      | .a ys => match flatAs xs with
        | some xs => match flatAs ys with
          | some ys => match eqL ls xs ys with
            | some b => some (.b (match neg with | true => !b | false => b))
            | none => none
          | none => none
        | none => none
      | _ => none
    | _ => none
  | .slice => none
def natT (bytes : Nat) : TV → Option Nat
  | .i k m => match bdA m most with
    | some m => bif eqK k .i64 && Nat.ble (Nat.mul m bytes) most then some m else none
    | none => none
  | _ => none
/-- the element k of a slice, of which a part is another one -/
def setE (es : List TV) (k off n : Nat) (x : TV) : Option (List TV) := match es[k]? with
  | none => none
  | some e => match putT e off n x with
    | some e' => some (es.set k e')
    | none => none
def ldE (es : List TV) (k off : Nat) (sz : Option Nat) : Option TV := match es[k]? with
  | none => none
  | some e => ldT e off sz

/-! ### 3. States: temporaries, objects that have names -/
inductive VV where
  | bad
  | tr (v : TV)
  /-- an empty slice, to which may be appended -/
  | nil0
  /-- a cell of an object; one whose place is told by a number -/
  | ptr (O off : Nat)
  | pd (O off : Nat)
  /-- a slice that is an object's -/
  | sl (O : Nat)
  /-- a cell of an element of such a slice -/
  | ea (O i off : Nat)
  /-- a cell of a value that never changes -/
  | pt (v : TV) (off : Nat)
  /-- a value, of which some cells are slices that are objects' -/
  | st (v : TV) (ovs : List (Nat × VV))
  deriving Inhabited
inductive VO where
  | ob (v : TV) (ovs : List (Nat × VV))
  /-- a slice: of so many cells an element; its elements -/
  | gr (sz : Nat) (es : List TV)
structure VE where
  gd : Option (TV × Bool)
  v : VV
structure VSt where
  env : Map VE
  H : Map VO
  us : Map Unit

def baseOf : AV → TV
  | .int k n => .i k n
  | .bool x => .b x
  | .str x => .s x
  | .func n => .f n
  | .nils => .l []
  | _ => .np
def basesOf : List AV → List TV
  | [] => []
  | x :: xs => baseOf x :: basesOf xs
def nilsAt : Nat → List AV → List (Nat × VV)
  | _, [] => []
  | i, x :: xs => match x with
    | .nils => (i, .nil0) :: nilsAt (i + 1) xs
    | _ => nilsAt (i + 1) xs
def constOk : AV → Bool
  | .int .. => true
  | .bool _ => true
  | .str _ => true
  | .func _ => true
  | .nils => true
  | .nilp => true
  | _ => false
noncomputable def constV (v : AV) : VV := match v with
  | .nils => .nil0
  | .agg cs => bif allB constOk cs then .st (.a (basesOf cs)) (nilsAt 0 cs) else .bad
  | .tup _ => .bad
  | v => bif constOk v then .tr (baseOf v) else .bad
/-- what zero cells are, as a value -/
def zeroT (sz : Nat) (zero : List AV) : TV := match sz with
  | 1 => match zero with
    | [x] => baseOf x
    | _ => .a (basesOf zero)
  | _ => .a (basesOf zero)

/-! cells that are slices of objects -/
def ovAt (off : Nat) : List (Nat × VV) → Option VV
  | [] => none
  | (i, x) :: r => bif Nat.beq i off then some x else ovAt off r
/-- those from `off` on, n of them, counted from there -/
def ovSub (off n : Nat) : List (Nat × VV) → List (Nat × VV)
  | [] => []
  | (i, x) :: r => bif Nat.ble off i && Nat.blt i (off + n) then (i - off, x) :: ovSub off n r else ovSub off n r
def ovCut (off n : Nat) : List (Nat × VV) → List (Nat × VV)
  | [] => []
  | (i, x) :: r => bif Nat.ble off i && Nat.blt i (off + n) then ovCut off n r else (i, x) :: ovCut off n r
def ovAdd (off : Nat) : List (Nat × VV) → List (Nat × VV) → List (Nat × VV)
  | [], r => r
  | (i, x) :: l, r => (i + off, x) :: ovAdd off l r
def mkSt (v : TV) : List (Nat × VV) → VV
  | [] => .tr v
  | p :: r => .st v (p :: r)

/-- a value that can be stored: a tree, and the cells that are slices of objects -/
def stOf : VV → Option (TV × List (Nat × VV))
  | .tr v => some (v, [])
  | .nil0 => some (.l [], [(0, .nil0)])
  | .sl O => some (.l [], [(0, .sl O)])
  | .st v o => some (v, o)
  | _ => none

abbrev G := Option (TV × Bool)
def rdK (V : VSt) (g : G) (x : Opd) (k : VV → Prop) : Prop := match x with
  | .c v => k (constV v)
  | .t n => match V.env.get n with
    | none => False
    | some e => match e.gd with
      | none => k e.v
      | some q => match g with
        | none => False
        | some p => p = q ∧ k e.v
/-- a value that is a tree as it stands -/
def treeK (w : VV) (k : TV → Prop) : Prop := match w with
  | .tr v => k v
  | .nil0 => k (.l [])
  | _ => False
def rdT (V : VSt) (g : G) (x : Opd) (k : TV → Prop) : Prop := rdK V g x fun w => treeK w k
def slOf (V : VSt) (w : VV) (k : List TV → Prop) : Prop := match w with
  | .sl O => match V.H.get O with
    | some (.gr _ es) => k es
    | _ => False
  | .nil0 => k []
  | _ => False
/-- a value with overrides, as a tree -/
def toTs (V : VSt) : List (Nat × VV) → TV → (TV → Prop) → Prop
  | [], v, k => k v
  | (off, w) :: r, v, k => toTs V r v fun u => slOf V w fun es => ∃ u', putT u off 1 (.l es) = some u' ∧ k u'
def toT (V : VSt) (w : VV) (k : TV → Prop) : Prop := match w with
  | .tr v => k v
  | .nil0 => k (.l [])
  | .sl O => slOf V (.sl O) fun es => k (.l es)
  | .st v ovs => toTs V ovs v k
  | _ => False
def ordT (V : VSt) (g : G) (x : Option Opd) (k : Option TV → Prop) : Prop := match x with
  | none => k none
  | some x => rdT V g x fun v => k (some v)
def rdTs (V : VSt) (g : G) : List Opd → (List TV → Prop) → Prop
  | [], k => k []
  | x :: xs, k => rdT V g x fun v => rdTs V g xs fun vs => k (v :: vs)

/-- what is told of a value under a guard -/
def gV (c : TV) (bb : Bool) (P : TV → Prop) (v : TV) : Prop := match c with
  | .b x => match x == bb with
    | true => P v
    | false => v = noT
  | _ => v = noT
def resT (g : G) (P : TV → Prop) (k : TV → Prop) : Prop := match g with
  | none => ∃ v, P v ∧ k v
  | some (c, bb) => ∃ v, gV c bb P v ∧ k v
def putV (nt : Nat) (V : VSt) (d : Option Nat) (g : G) (w : VV) (k : VSt → Prop) : Prop := match d with
  | none => k V
  | some d => bif Nat.blt d nt then k { V with env := V.env.put (some ⟨g, w⟩) d } else False
/-- a value by what is told of it -/
def resV (nt : Nat) (V : VSt) (d : Option Nat) (g : G) (P : Option TV) (k : VSt → Prop) : Prop := resT g (fun v => P = some v) fun v => putV nt V d none (.tr v) k
/-- a new object, named as the temporary -/
def newV (nt : Nat) (V : VSt) (d : Option Nat) (g : G) (w : Nat → VV) (o : VO) (k : VSt → Prop) : Prop := match g with
  | some _ => False
  | none => match d with
    | none => False
    | some d => match V.us.get d with
      | some _ => False
      | none => putV nt { V with H := V.H.put (some o) d, us := V.us.put (some ()) d } (some d) none (w d) k

/-- the parts of a literal: trees are put in, slices of objects stand beside -/
def partsK (V : VSt) (g : G) : List (Nat × Nat × Opd) → TV → List (Nat × VV) → (TV → List (Nat × VV) → Prop) → Prop
  | [], v, ovs, k => k v ovs
  | (off, n, x) :: r, v, ovs, k => rdK V g x fun w => match stOf w with
    | some (t, o) => ∃ u, putT v off n t = some u ∧ partsK V g r u (ovAdd off o (ovCut off n ovs)) k
    | none => False
/-- the elements of a literal slice, all of them told, in a row; the objects that they lead to are given up -/
noncomputable def dropVV (V : VSt) : VV → VSt
  | .sl O => { V with H := V.H.put none O }
  | _ => V
noncomputable def dropOvs (V : VSt) : List (Nat × VV) → VSt
  | [] => V
  | (_, w) :: r => dropOvs (dropVV V w) r
def szOk (n : Nat) (v : TV) : Prop := match cellsT v with
  | some l => l.length = n
  | none => False
def elemsK (V : VSt) (g : G) (fz : Bool) (sz : Nat) : Nat → List (Nat × Nat × Opd) → (List TV → VSt → Prop) → Prop
  | _, [], k => k [] V
  | j, (off, n, x) :: r, k => (Nat.beq off (j * sz) && Nat.beq n sz) = true ∧ rdK V g x fun w => match w with
    | .tr t => szOk n t ∧ elemsK V g fz sz (j + 1) r fun ts V' => k (t :: ts) V'
    | .nil0 => n = 1 ∧ elemsK V g fz sz (j + 1) r fun ts V' => k (.l [] :: ts) V'
    | .sl O => fz = true ∧ n = 1 ∧ slOf V (.sl O) fun es => elemsK (dropVV V (.sl O)) g fz sz (j + 1) r fun ts V' => k (.l es :: ts) V'
    | .st t o => fz = true ∧ toTs V o t fun t => szOk n t ∧ elemsK (dropOvs V o) g fz sz (j + 1) r fun ts V' => k (t :: ts) V'
    | _ => False

/-! ### 4. What a call answers: by any way in which its arguments may stand -/
def CanL (ts : List TV) (as : List AV) : Prop := ts.length = as.length ∧ ∀ (j : Nat) (t : TV) (x : AV), ts[j]? = some t → as[j]? = some x → Can t x
def VS (prog : Map AFunc) (f : Nat) (ts : List TV) (Q : TV → Prop) : Prop :=
  ∀ as, CanL ts as → ∃ v H nx, runFn prog f as .leaf 0 = some (v, H, nx) ∧ ∃ a, toImm deep H v = some a ∧ ∃ r, Can r a ∧ Q r
theorem VS.mono {prog : Map AFunc} {f : Nat} {ts : List TV} {Q Q' : TV → Prop} (h : VS prog f ts Q) (hq : ∀ r, Q r → Q' r) : VS prog f ts Q' :=
  fun as ha => let ⟨v, H, nx, h1, a, h2, r, h3, h4⟩ := h as ha; ⟨v, H, nx, h1, a, h2, r, h3, hq r h4⟩
/-- all are empty slices -/
def nilsB : List (Nat × VV) → Bool
  | [] => true
  | (_, .nil0) :: r => nilsB r
  | _ :: _ => false
/-- the arguments of a call, as trees; are there ones that lead to objects? -/
def argsK (V : VSt) (g : G) : List Opd → (Bool → List TV → Prop) → Prop
  | [], k => k true []
  | x :: xs, k => rdK V g x fun w => match w with
    | .tr v => argsK V g xs fun p vs => k p (v :: vs)
    | .nil0 => argsK V g xs fun p vs => k p (.l [] :: vs)
    | .st v ovs => toTs V ovs v fun v => argsK V g xs fun p vs => k (nilsB ovs && p) (v :: vs)
    | w => toT V w fun v => argsK V g xs fun _ vs => k false (v :: vs)

/-- the elements are of so many cells (of the first one it is asked: all are alike) -/
def szHd (n : Nat) : List TV → Prop
  | [] => True
  | e :: _ => szOk n e

/-! ### 5. Operations, code -/
noncomputable def setVO (V : VSt) (O : Nat) (o : VO) : VSt := { V with H := V.H.put (some o) O }
noncomputable def dropO (V : VSt) (O : Nat) : VSt := { V with H := V.H.put none O }
/-- a static number of cells: not none -/
def pos (n : Nat) (p : Prop) : Prop := bif Nat.blt 0 n then p else False
def same (a b : Nat) (p : Prop) : Prop := bif Nat.beq a b then p else False
def resN (g : G) (P : Option Nat) (k : Nat → Prop) : Prop := match g with
  | none => ∃ n, P = some n ∧ k n
  | some (c, bb) => ∃ n, (c = .b bb → P = some n) ∧ k n
def isConst0 : Option Opd → Bool
  | some (.c (.int _ (.ofNat 0))) => true
  | _ => false

noncomputable def vvOf (V : VSt) (x : Opd) : VV := match x with
  | .c v => constV v
  | .t n => match V.env.get n with
    | some e => e.v
    | none => .bad
def memB (n : Nat) : List Nat → Bool
  | [] => false
  | m :: l => Nat.beq n m || memB n l
/-! what a loop's head, or a place where ways meet, knows -/
inductive Ent where
  /-- a temporary: a tree; a slice that is an object's -/
  | tr (t : Nat)
  | sl (t sz : Nat)
  /-- a temporary: an object's cell -/
  | pt (t O off : Nat)
  /-- an object: its slices' places, the cells of an element of each -/
  | ob (O : Nat) (offs : List (Nat × Nat))
def JL : List (Nat × Nat) → Type → Type
  | [], R => R
  | _ :: l, R => List TV → JL l R
def JT : List Ent → Type → Type
  | [], R => R
  | .tr _ :: J, R => TV → JT J R
  | .sl _ _ :: J, R => List TV → JT J R
  | .pt _ _ _ :: J, R => JT J R
  | .ob _ offs :: J, R => TV → JL offs (JT J R)
def tokC (O off : Nat) : Nat := 1024 + 32 * O + off
noncomputable def addE (V : VSt) (t : Nat) (w : VV) : VSt := { V with env := V.env.put (some ⟨none, w⟩) t }
/-- an object is given up, and what it was told -/
def takeS (V : VSt) (sz : Nat) (w : VV) (k : List TV → VSt → Prop) : Prop := match w with
  | .sl O => match V.H.get O with
    | some (.gr z es) => same z sz (k es (dropO V O))
    | _ => False
  | .nil0 => k [] V
  | _ => False
def takeL {R : Type} (V : VSt) (ovs : List (Nat × VV)) : (offs : List (Nat × Nat)) → JL offs R → (R → VSt → Prop) → Prop
  | [], I, k => k I V
  | (off, sz) :: offs, I, k => match ovAt off ovs with
    | some w => takeS V sz w fun es V' => takeL V' ovs offs (I es) k
    | none => False
def hasKey (i : Nat) : List (Nat × Nat) → Bool
  | [] => false
  | (j, _) :: l => Nat.beq i j || hasKey i l
def keysIn : List (Nat × VV) → List (Nat × Nat) → Bool
  | [], _ => true
  | (i, _) :: r, l => hasKey i l && keysIn r l
def prJ : (J : List Ent) → VSt → JT J Prop → Prop
  | [], _, I => I
  | .tr t :: J, V, I => rdT V none (.t t) fun v => prJ J V (I v)
  | .sl t sz :: J, V, I => rdK V none (.t t) fun w => takeS V sz w fun es V' => prJ J V' (I es)
  | .pt t O off :: J, V, I => rdK V none (.t t) fun w => match w with
    | .ptr O' off' => same O' O (same off' off (prJ J V I))
    | _ => False
  | .ob O offs :: J, V, I => match V.H.get O with
    | some (.ob v ovs) => match keysIn ovs offs with
      | true => takeL (R := JT J Prop) (dropO V O) ovs offs (I v) fun I V' => prJ J V' I
      | false => False
    | _ => False
def entPos : Ent → Bool
  | .sl _ sz => Nat.blt 0 sz
  | .ob _ offs => offs.all fun p => Nat.blt 0 p.2
  | _ => true
/-- a new name -/
def nameK (V : VSt) (O : Nat) (o : VO) (k : VSt → Prop) : Prop := match V.us.get O with
  | some _ => False
  | none => k { V with H := V.H.put (some o) O, us := V.us.put (some ()) O }
def ovsOf (O : Nat) : List (Nat × Nat) → List (Nat × VV)
  | [] => []
  | (off, _) :: l => (off, .sl (tokC O off)) :: ovsOf O l
def allL {R : Type} (O : Nat) : (offs : List (Nat × Nat)) → VSt → JL offs R → (R → VSt → Prop) → Prop
  | [], V, I, k => k I V
  | (off, sz) :: offs, V, I, k => ∀ es : List TV, nameK V (tokC O off) (.gr sz es) fun V' => allL O offs V' (I es) k
def allJ : (J : List Ent) → VSt → JT J Prop → (VSt → Prop) → Prop
  | [], V, I, k => I → k V
  | .tr t :: J, V, I, k => ∀ v : TV, allJ J (addE V t (.tr v)) (I v) k
  | .sl t sz :: J, V, I, k => ∀ es : List TV, nameK V t (.gr sz es) fun V' => allJ J (addE V' t (.sl t)) (I es) k
  | .pt t O off :: J, V, I, k => match V.H.get O with
    | some (.ob _ _) => allJ J (addE V t (.ptr O off)) I k
    | _ => False
  | .ob O offs :: J, V, I, k => ∀ v : TV, allL (R := JT J Prop) O offs V (I v) fun I V' => nameK V' O (.ob v (ovsOf O offs)) fun V'' => allJ J V'' I k
def V0 : VSt := ⟨.leaf, .leaf, .leaf⟩


/-! calls that are given objects -/
noncomputable def restL (V : VSt) (ovs : List (Nat × VV)) : List (Nat × Nat) → VSt
  | [] => V
  | (off, _) :: l => match ovAt off ovs with
    | some w => restL (dropVV V w) ovs l
    | none => restL V ovs l
noncomputable def restJ : List Ent → VSt → VSt
  | [], V => V
  | .tr _ :: J, V => restJ J V
  | .sl t _ :: J, V => restJ J (dropVV V (vvOf V (.t t)))
  | .pt _ _ _ :: J, V => restJ J V
  | .ob O offs :: J, V => match V.H.get O with
    | some (.ob _ ovs) => restJ J (restL (dropO V O) ovs offs)
    | _ => V
noncomputable def nameV (V : VSt) (O : Nat) (o : VO) : VSt := { V with H := V.H.put (some o) O, us := V.us.put (some ()) O }
noncomputable def mkL {R : Type} (O : Nat) : (offs : List (Nat × Nat)) → VSt → (VSt → R) → JL offs R
  | [], V, k => k V
  | (off, sz) :: l, V, k => fun es : List TV => mkL O l (nameV V (tokC O off) (.gr sz es)) k
/-- the state that a place's knowledge makes -/
noncomputable def mkJ : (J : List Ent) → VSt → (VSt → Prop) → JT J Prop
  | [], V, k => k V
  | .tr t :: J, V, k => fun v : TV => mkJ J (addE V t (.tr v)) k
  | .sl t sz :: J, V, k => fun es : List TV => mkJ J (addE (nameV V t (.gr sz es)) t (.sl t)) k
  | .pt t O off :: J, V, k => mkJ J (addE V t (.ptr O off)) k
  | .ob O offs :: J, V, k => fun v : TV => mkL (R := JT J Prop) O offs V fun V' => mkJ J (nameV V' O (.ob v (ovsOf O offs))) k
noncomputable def freeB (us : Map Unit) (O : Nat) : Bool := match us.get O with
  | some _ => false
  | none => true
noncomputable def okL (O : Nat) : List (Nat × Nat) → Map Unit → Option (Map Unit)
  | [], us => some us
  | (off, _) :: l, us => bif freeB us (tokC O off) then okL O l (us.put (some ()) (tokC O off)) else none
/-- the names are apart; a pointer's object is there -/
noncomputable def okN : List Ent → Map Unit → List Nat → Bool
  | [], _, _ => true
  | .tr _ :: J, us, obs => okN J us obs
  | .sl t _ :: J, us, obs => freeB us t && okN J (us.put (some ()) t) obs
  | .pt _ O _ :: J, us, obs => memB O obs && okN J us obs
  | .ob O offs :: J, us, obs => match okL O offs us with
    | some us => freeB us O && okN J (us.put (some ()) O) (O :: obs)
    | none => false

inductive PK where
  | tr
  | ob (offs : List (Nat × Nat))
  | sl (sz : Nat)
inductive RK where
  | tr
  | sl (sz : Nat)
structure Sig where
  ks : List PK
  rk : RK
def jin : List PK → Nat → List Ent
  | [], _ => []
  | .tr :: ks, i => .tr i :: jin ks (i + 1)
  | .ob offs :: ks, i => .ob i offs :: .pt i i 0 :: jin ks (i + 1)
  | .sl sz :: ks, i => .sl i sz :: jin ks (i + 1)
def jres (np : Nat) : RK → List Ent
  | .tr => [.tr np]
  | .sl sz => [.sl np sz]
def jout (np : Nat) (rk : RK) : List PK → Nat → List Ent
  | [], _ => jres np rk
  | .tr :: ks, i => jout np rk ks (i + 1)
  | .ob offs :: ks, i => .ob i offs :: .pt i i 0 :: jout np rk ks (i + 1)
  | .sl sz :: ks, i => .sl i sz :: jout np rk ks (i + 1)
inductive Imp where
  | ob (O d : Nat)
  | pt
  | sl (O : Nat)
  | res (d : Nat)
def impsOf (d : Nat) : List PK → List VV → Option (List Imp)
  | [], [] => some [.res d]
  | .tr :: ks, _ :: ws => impsOf d ks ws
  | .ob _ :: ks, .ptr O 0 :: ws => match impsOf d ks ws with
    | some l => some (.ob O d :: .pt :: l)
    | none => none
  | .sl _ :: ks, .sl O :: ws => match impsOf d ks ws with
    | some l => some (.sl O :: l)
    | none => none
  | _, _ => none
def tokS (d off : Nat) : Nat := 65536 + 64 * d + off
def ovsS (d : Nat) : List (Nat × Nat) → List (Nat × VV)
  | [] => []
  | (off, _) :: l => (off, .sl (tokS d off)) :: ovsS d l
noncomputable def conL {R : Type} (d : Nat) : (offs : List (Nat × Nat)) → VSt → (VSt → R) → JL offs R
  | [], V, k => k V
  | (off, sz) :: l, V, k => fun es : List TV => conL d l (nameV V (tokS d off) (.gr sz es)) k
def noL {R : Type} (r : R) : (offs : List (Nat × Nat)) → JL offs R
  | [] => r
  | _ :: l => fun _ : List TV => noL r l
def noJ : (J : List Ent) → JT J Prop
  | [] => False
  | .tr _ :: J => fun _ : TV => noJ J
  | .sl _ _ :: J => fun _ : List TV => noJ J
  | .pt _ _ _ :: J => noJ J
  | .ob _ offs :: J => fun _ : TV => noL (R := JT J Prop) (noJ J) offs
/-- what comes back is the caller's again -/
noncomputable def conJ : (J : List Ent) → List Imp → VSt → (VSt → Prop) → JT J Prop
  | [], _, V, k => k V
  | .tr _ :: J, ims, V, k => fun v : TV => match ims with
    | .res d :: ims => conJ J ims (addE V d (.tr v)) k
    | _ => noJ J
  | .pt _ _ _ :: J, ims, V, k => match ims with
    | .pt :: ims => conJ J ims V k
    | _ => noJ J
  | .sl _ sz :: J, ims, V, k => fun es : List TV => match ims with
    | .sl O :: ims => conJ J ims (setVO V O (.gr sz es)) k
    | .res d :: ims => conJ J ims (addE (nameV V d (.gr sz es)) d (.sl d)) k
    | _ => noJ J
  | .ob _ offs :: J, ims, V, k => fun v : TV => match ims with
    | .ob O d :: ims => conL (R := JT J Prop) d offs V fun V' => conJ J ims (setVO V' O (.ob v (ovsS d offs))) k
    | _ => noL (R := JT J Prop) (noJ J) offs
noncomputable def okLS (d : Nat) : List (Nat × Nat) → Map Unit → Option (Map Unit)
  | [], us => some us
  | (off, _) :: l, us => bif freeB us (tokS d off) then okLS d l (us.put (some ()) (tokS d off)) else none
noncomputable def okI (nt : Nat) : List Ent → List Imp → Map Unit → Bool
  | [], _, _ => true
  | .tr _ :: J, ims, us => match ims with
    | .res d :: ims => Nat.blt d nt && okI nt J ims us
    | _ => false
  | .pt _ _ _ :: J, ims, us => match ims with
    | .pt :: ims => okI nt J ims us
    | _ => false
  | .sl _ _ :: J, ims, us => match ims with
    | .sl _ :: ims => okI nt J ims us
    | .res d :: ims => Nat.blt d nt && (freeB us d && okI nt J ims (us.put (some ()) d))
    | _ => false
  | .ob _ offs :: J, ims, us => match ims with
    | .ob _ d :: ims => match okLS d offs us with
      | some us => okI nt J ims us
      | none => false
    | _ => false
/-- what is known of functions that are given objects -/
structure Sh where
  sg : Nat → Option Sig
  vs : (f np : Nat) → (Jin Jout : List Ent) → JT Jout Prop → JT Jin Prop
def rdKs (V : VSt) : List Opd → (List VV → Prop) → Prop
  | [], k => k []
  | x :: xs, k => rdK V none x fun w => rdKs V xs fun ws => k (w :: ws)
noncomputable def envVV : List VV → Nat → Map VE → Map VE
  | [], _, e => e
  | w :: ws, i, e => envVV ws (i + 1) (e.put (some ⟨none, w⟩) i)
/-- what is handed on, argument by argument; what is left -/
noncomputable def prA : (ks : List PK) → (i : Nat) → List VV → VSt → JT (jin ks i) Prop → Prop
  | [], _, ws, _, I => match ws with
    | [] => I
    | _ :: _ => False
  | .tr :: ks, i, ws, V, I => match ws with
    | w :: ws => treeK w fun v => prA ks (i + 1) ws V (I v)
    | [] => False
  | .ob offs :: ks, i, ws, V, I => match ws with
    | .ptr O 0 :: ws => (match V.H.get O with
      | some (.ob v ovs) => match keysIn ovs offs with
        | true => takeL (R := JT (.pt i i 0 :: jin ks (i + 1)) Prop) (dropO V O) ovs offs (I v) fun I V' => prA ks (i + 1) ws V' I
        | false => False
      | _ => False)
    | _ => False
  | .sl sz :: ks, i, ws, V, I => match ws with
    | .sl O :: ws => takeS V sz (.sl O) fun es V' => prA ks (i + 1) ws V' (I es)
    | _ => False
noncomputable def restA : List PK → List VV → VSt → VSt
  | [], _, V => V
  | .tr :: ks, ws, V => match ws with
    | _ :: ws => restA ks ws V
    | [] => V
  | .ob offs :: ks, ws, V => match ws with
    | .ptr O 0 :: ws => (match V.H.get O with
      | some (.ob _ ovs) => restA ks ws (restL (dropO V O) ovs offs)
      | _ => V)
    | _ => V
  | .sl _ :: ks, ws, V => match ws with
    | .sl O :: ws => restA ks ws (dropVV V (.sl O))
    | _ => V
noncomputable def evShare (sh : Sh) (nt : Nat) (V : VSt) (d : Option Nat) (f : Nat) (args : List Opd) (k : VSt → Prop) : Prop := match d with
  | none => False
  | some d => match sh.sg f with
    | none => False
    | some sg => rdKs V args fun ws => match impsOf d sg.ks ws with
      | none => False
      | some ims => match ((jin sg.ks 0).all entPos && (jout sg.ks.length sg.rk sg.ks 0).all entPos) && (okN (jin sg.ks 0) .leaf [] && okI nt (jout sg.ks.length sg.rk sg.ks 0) ims V.us) with
        | false => False
        | true => prA sg.ks 0 ws V (sh.vs f sg.ks.length (jin sg.ks 0) (jout sg.ks.length sg.rk sg.ks 0)
            (conJ (jout sg.ks.length sg.rk sg.ks 0) ims { restA sg.ks ws V with env := V.env.put none d } k))

section
variable (sh : Sh) (prog : Map AFunc) (nt : Nat)

def evLoad (V : VSt) (d : Option Nat) (g : G) (sz : Option Nat) (w : VV) (k : VSt → Prop) : Prop := match w with
  | .ptr O off => match V.H.get O with
    | some (.ob v ovs) => match sz with
      | none => match ovAt off ovs with
        | some w => putV nt V d g w k
        | none => resV nt V d g (cellT v off) k
      | some n => match ovSub off n ovs with
        | [] => resV nt V d g (subT v off n) k
        | p :: r => match g with
          | none => ∃ u, subT v off n = some u ∧ putV nt V d none (.st u (p :: r)) k
          | some _ => False
    | _ => False
  | .pd O off => match V.H.get O with
    | some (.ob v ovs) => match ovs with
      | [] => resV nt V d g (ldT v off sz) k
      | _ :: _ => False
    | _ => False
  | .pt v off => resV nt V d g (ldT v off sz) k
  | .ea O i off => match V.H.get O with
    | some (.gr _ es) => resV nt V d g (ldE es i off sz) k
    | _ => False
  | _ => False
def evStore (V : VSt) (sz : Nat) (w x : VV) (k : VSt → Prop) : Prop := match w with
  | .ptr O off => match V.H.get O with
    | some (.ob v ovs) => match stOf x with
      | some (t, o) => ∃ u, putT v off sz t = some u ∧ k (setVO V O (.ob u (ovAdd off o (ovCut off sz ovs))))
      | none => False
    | _ => False
  | .pd O off => match V.H.get O with
    | some (.ob v ovs) => match ovs with
      | [] => match x with
        | .tr t => ∃ u, putT v off sz t = some u ∧ k (setVO V O (.ob u []))
        | _ => False
      | _ :: _ => False
    | _ => False
  | .ea O i off => match V.H.get O with
    | some (.gr z es) => match x with
      | .tr t => ∃ es', setE es i off sz t = some es' ∧ k (setVO V O (.gr z es'))
      | _ => False
    | _ => False
  | _ => False
def evFld (V : VSt) (d : Option Nat) (g : G) (off : Nat) (sz : Option Nat) (w : VV) (k : VSt → Prop) : Prop := match w with
  | .tr v => resV nt V d g (fldT v off sz) k
  | .st v ovs => match sz with
    | none => match ovAt off ovs with
      | some w => putV nt V d g w k
      | none => resV nt V d g (cellT v off) k
    | some n => match ovSub off n ovs with
      | [] => resV nt V d g (subT v off n) k
      | p :: r => match g with
        | none => ∃ u, subT v off n = some u ∧ putV nt V d none (.st u (p :: r)) k
        | some _ => False
  | _ => False
def evFaddr (V : VSt) (d : Option Nat) (g : G) (off : Nat) (w : VV) (k : VSt → Prop) : Prop := match w with
  | .ptr O o => putV nt V d g (.ptr O (o + off)) k
  | .pd O o => putV nt V d g (.pd O (o + off)) k
  | .pt v o => putV nt V d g (.pt v (o + off)) k
  | .ea O i o => putV nt V d g (.ea O i (o + off)) k
  | _ => False
def evIaddr (V : VSt) (d : Option Nat) (g : G) (sz : Nat) (w : VV) (i : TV) (k : VSt → Prop) : Prop := pos sz <| match w with
  | .tr v => resT g (fun e => idxT v i = some e ∧ szOk sz e) fun e => putV nt V d g (.pt e 0) k
  | .sl O => match V.H.get O with
    | some (.gr z es) => same z sz (resN g (ixN i es.length) fun n => putV nt V d g (.ea O n 0) k)
    | _ => False
  | _ => False
def evIarr (V : VSt) (d : Option Nat) (g : G) (len sz : Nat) (w : VV) (i : TV) (k : VSt → Prop) : Prop := match w with
  | .ptr O o => resN g (ixN i len) fun n => putV nt V d g (.pd O (o + n * sz)) k
  | .pd O o => resN g (ixN i len) fun n => putV nt V d g (.pd O (o + n * sz)) k
  | .pt v o => resN g (ixN i len) fun n => putV nt V d g (.pt v (o + n * sz)) k
  | _ => False
def evLen (V : VSt) (d : Option Nat) (g : G) (str : Bool) (w : VV) (k : VSt → Prop) : Prop := match str with
  | true => match w with
    | .tr v => resV nt V d g (slenT v) k
    | _ => False
  | false => match w with
    | .tr v => resV nt V d g (lenT v) k
    | .nil0 => resV nt V d g (some (.i .i64 0)) k
    | .sl O => match V.H.get O with
      | some (.gr _ es) => resV nt V d g (some (.i .i64 es.length)) k
      | _ => False
    | _ => False
/-- what is appended: its elements, of so many cells -/
def srcK (V : VSt) (sz : Nat) (w : VV) (k : List TV → Prop) : Prop := match w with
  | .tr v => ∃ xs, listT v = some xs ∧ szHd sz xs ∧ k xs
  | .nil0 => k []
  | .sl P => match V.H.get P with
    | some (.gr z es) => same z sz (k es)
    | _ => False
  | _ => False
def evApp (V : VSt) (d : Option Nat) (g : G) (sz bytes : Nat) (w x : VV) (k : VSt → Prop) : Prop := pos sz <| srcK V sz x fun xs => match w with
  | .nil0 => ∃ l, appT bytes [] xs = some l ∧ newV nt V d g .sl (.gr sz l) k
  | .sl O => match V.H.get O with
    | some (.gr z es) => same z sz (∃ l, appT bytes es xs = some l ∧ newV nt (dropO V O) d g .sl (.gr sz l) k)
    | _ => False
  | _ => False
def evSlsl (V : VSt) (d : Option Nat) (g : G) (sz : Nat) (w : VV) (lo hi mx : Option Opd) (k : VSt → Prop) : Prop := pos sz <| match w with
  | .sl O => match V.H.get O with
    | some (.gr z es) => match hi with
      | none => match mx with
        | none => same z sz (ordT V none lo fun l => ∃ m, bdT l 0 es.length = some m ∧ newV nt (dropO V O) d g .sl (.gr sz (es.drop m)) k)
        | some _ => False
      | some _ => False
    | _ => False
  | .tr v => match mx with
    | none => ordT V g lo fun l => ordT V g hi fun h => resT g (fun r => slT v l h = some r ∧ (∀ es, v = .l es → szHd sz es)) fun r => putV nt V d none (.tr r) k
    | some m => match isConst0 hi && isConst0 mx && lo.isNone && g.isNone with
      | true => ∃ l, listT v = some l ∧ szHd sz l ∧ putV nt V d none .nil0 k
      | false => False
  | .nil0 => match isConst0 hi && isConst0 mx && lo.isNone with
    | true => putV nt V d g .nil0 k
    | false => False
  | _ => False

/-- what a call gives, of which an argument leads to objects, leads to none -/
def scOk (p : Bool) (r : TV) : Prop := match p with
  | true => True
  | false => r.scal = true
def evCall (V : VSt) (d : Option Nat) (g : G) (f : Nat) (args : List Opd) (k : VSt → Prop) : Prop :=
  argsK V g args fun p ts => match g with
    | none => VS prog f ts fun r => scOk p r ∧ putV nt V d none (.tr r) k
    | some (c, bb) => ∃ r, gV c bb (fun r => VS prog f ts fun r' => r' = r ∧ scOk p r) r ∧ putV nt V d none (.tr r) k

def evMv (V : VSt) (d : Option Nat) (g : G) (w : VV) (k : VSt → Prop) : Prop := match w with
  | .tr v => (match g with | none => putV nt V d none (.tr v) k | some _ => resV nt V d g (some v) k)
  | .bad => False
  | w => putV nt V d g w k
def evNilck (V : VSt) (d : Option Nat) (g : G) (w : VV) (k : VSt → Prop) : Prop := match w with
  | .ptr .. => putV nt V d g w k
  | .pd .. => putV nt V d g w k
  | .pt .. => putV nt V d g w k
  | .ea .. => putV nt V d g w k
  | _ => False
def evIsl (V : VSt) (d : Option Nat) (g : G) (fz : Bool) (len : Nat) (zero : List AV) (parts : List (Nat × Nat × Opd)) (k : VSt → Prop) : Prop := match g with
  | none => match len with
    | 0 => (match parts with | [] => (match zero with | [] => (match fz with | false => putV nt V d none .nil0 k | true => False) | _ :: _ => False) | _ :: _ => False)
    | n + 1 => pos (zero.length / len) (same ((zero.length / len) * len) zero.length (elemsK V none fz (zero.length / len) 0 parts fun ts V' => same ts.length len (putV nt V' d none (.tr (.l ts)) k)))
  | some _ => False
def evU (V : VSt) (d : Option Nat) (g : G) (op : AOp) (k : VSt → Prop) : Prop := match op with
  | .mv x => rdK V g x fun w => evMv nt V d g w k
  | .pick c a b => rdT V g c fun c => rdT V g a fun a => rdT V g b fun b => resV nt V d g (pickT c a b) k
  | .alloc zero => match allB constOk zero with
    | true => newV nt V d g (fun O => .ptr O 0) (.ob (.a (basesOf zero)) (nilsAt 0 zero)) k
    | false => False
  | .box x => rdK V g x fun w => match stOf w with
    | some (v, o) => v.isTp = false ∧ newV nt V d g (fun O => .ptr O 0) (.ob v o) k
    | none => False
  | .build zero parts => match g with
    | none => (match allB constOk zero with
      | true => partsK V none parts (.a (basesOf zero)) (nilsAt 0 zero) fun v ovs => putV nt V d none (mkSt v ovs) k
      | false => False)
    | some _ => False
  | .bslice es len zero parts => match g with
    | none => pos es (elemsK V none false es 0 parts fun ts V' => same ts.length len (same zero.length (ts.length * es) (newV nt V' d none .sl (.gr es ts) k)))
    | some _ => False
  | .islice len zero parts => evIsl nt V d g false len zero parts k
  | .load sz a => rdK V g a fun w => evLoad nt V d g sz w k
  | .store sz a x => match g with
    | none => match d with
      | none => rdK V none a fun w => rdK V none x fun x => evStore V sz w x k
      | some _ => False
    | some _ => False
  | .nilck x => rdK V g x fun w => evNilck nt V d g w k
  | .bin op x y => rdT V g x fun x => rdT V g y fun y => resV nt V d g (binT op x y) k
  | .eq t neg x y => rdT V g x fun x => rdT V g y fun y => resV nt V d g (eqT t neg x y) k
  | .un op x => rdT V g x fun x => resV nt V d g (unT op x) k
  | .conv c x => rdT V g x fun x => resV nt V d g (convT c x) k
  | .mksl es bytes zero n => pos es <| match g with
    | none => (match allB constOk zero && Nat.beq zero.length es with
      | true => rdT V none n fun n => ∃ m, natT bytes n = some m ∧ newV nt V d none .sl (.gr es (List.replicate m (zeroT es zero))) k
      | false => False)
    | some _ => False
  | .slstr x lo hi => rdT V g x fun x => ordT V g lo fun lo => ordT V g hi fun hi => resV nt V d g (slstrT x lo hi) k
  | .slsl es x lo hi mx => rdK V g x fun w => evSlsl nt V d g es w lo hi mx k
  | .faddr off x => rdK V g x fun w => evFaddr nt V d g off w k
  | .fld off sz x => rdK V g x fun w => evFld nt V d g off sz w k
  | .iaddr es x i => rdK V g x fun w => rdT V g i fun i => evIaddr nt V d g es w i k
  | .iarr len es x i => rdK V g x fun w => rdT V g i fun i => evIarr nt V d g len es w i k
  | .idx x i => rdT V g x fun x => rdT V g i fun i => resV nt V d g (idxST x i) k
  | .ext i x => rdT V g x fun x => resV nt V d g (extT i x) k
  | .app es bytes s x => rdK V g s fun w => rdK V g x fun x => evApp nt V d g es bytes w x k
  | .len str x => rdK V g x fun w => evLen nt V d g str w k
  | .mnx mx xs => rdTs V g xs fun xs => resV nt V d g (mnxT mx xs) k
  | .call f args .borrow => evCall prog nt V d g f args k
  | .call f args .share => match g with
    | none => evShare sh nt V d f args k
    | some _ => False
  | .callv f args .borrow => rdT V g f fun f => match g with
    | none => ∃ n, f = .f n ∧ evCall prog nt V d none n args k
    | some _ => False
  | _ => False

/-- an operation, under its guard -/
def evO (V : VSt) (o : AOper) (k : VSt → Prop) : Prop := match o.gd with
  | none => match o.fz with
    | true => (match o.op with
      | .islice len zero parts => evIsl nt V o.dst none true len zero parts k
      | _ => False)
    | false => evU sh prog nt V o.dst none o.op k
  | some (n, bb) => match o.fz with
    | true => False
    | false => rdT V none (.t n) fun c => evU sh prog nt V o.dst (some (c, bb)) o.op k
def evOs : List AOper → VSt → (VSt → Prop) → Prop
  | [], V, k => k V
  | o :: l, V, k => evO sh prog nt V o fun V => evOs l V k

/-! regions of open order: what operations look at, by names -/
structure Foot where
  rd : List Nat
  wr : List Nat
  src : List Nat
def ovToks : List (Nat × VV) → List Nat
  | [] => []
  | (_, .sl O) :: r => O :: ovToks r
  | _ :: r => ovToks r
def vvToks : VV → List Nat
  | .sl O => [O]
  | .st _ ovs => ovToks ovs
  | _ => []
def ptrToks : VV → List Nat
  | .ptr O _ => [O]
  | .pd O _ => [O]
  | .ea O _ _ => [O]
  | _ => []
def isTree : VV → Bool
  | .tr _ => true
  | .nil0 => true
  | .st _ ovs => nilsB ovs
  | _ => false
noncomputable def treesB (V : VSt) : List Opd → Bool
  | [] => true
  | x :: xs => isTree (vvOf V x) && treesB V xs
noncomputable def partToks (V : VSt) : List (Nat × Nat × Opd) → List Nat
  | [] => []
  | (_, _, x) :: r => vvToks (vvOf V x) ++ partToks V r
noncomputable def foot (V : VSt) (o : AOper) : Option Foot := match o.op with
  | .load _ a => some ⟨ptrToks (vvOf V a), [], []⟩
  | .store _ a _ => some ⟨ptrToks (vvOf V a), ptrToks (vvOf V a), []⟩
  | .app _ _ s x => some ⟨vvToks (vvOf V s) ++ vvToks (vvOf V x), vvToks (vvOf V s), vvToks (vvOf V s)⟩
  | .slsl _ x _ _ _ => some ⟨[], [], vvToks (vvOf V x)⟩
  | .islice _ _ parts => match o.fz with
    | true => some ⟨partToks V parts, partToks V parts, []⟩
    | false => some ⟨[], [], []⟩
  | .call _ args .borrow => match treesB V args with
    | true => some ⟨[], [], []⟩
    | false => none
  | .callv _ args .borrow => match treesB V args with
    | true => some ⟨[], [], []⟩
    | false => none
  | .call _ _ .share => none
  | .callv _ _ .share => none
  | .slarr .. => none
  | .cpy .. => none
  | .clr .. => none
  | .mlook .. => none
  | .mset .. => none
  | .mlen .. => none
  | _ => some ⟨[], [], []⟩
/-- a name's kin, and the operations of the region that may have made what it names -/
def infoOf (T : Nat) : List (Nat × Nat × List Nat) → Nat × List Nat
  | [] => (T, [])
  | (T', x) :: l => bif Nat.beq T' T then x else infoOf T l
def subB : List Nat → List Nat → Bool
  | [], _ => true
  | n :: l, m => memB n m && subB l m
def disjB : List Nat → List Nat → Bool
  | [], _ => true
  | n :: l, m => !memB n m && disjB l m
def rootsOf (info : List (Nat × Nat × List Nat)) : List Nat → List Nat
  | [] => []
  | T :: l => (infoOf T info).1 :: rootsOf info l
def chainsOk (info : List (Nat × Nat × List Nat)) (ah : List Nat) : List Nat → Bool
  | [] => true
  | T :: l => subB (infoOf T info).2 ah && chainsOk info ah l
noncomputable def allK {α : Type} (m : Map α) : (Nat → Bool) → Bool :=
  Map.rec (motive := fun _ => (Nat → Bool) → Bool) (fun _ => true)
    (fun v _ _ l r p => (match v with | none => true | some _ => p 0) && (l (fun k => p (Nat.succ (Nat.mul 2 k))) && r (fun k => p (Nat.succ (Nat.succ (Nat.mul 2 k)))))) m
def isD (d : Option Nat) (T : Nat) : Bool := match d with
  | some d => Nat.beq d T
  | none => false
noncomputable def hasO (V : VSt) (T : Nat) : Bool := match V.H.get T with
  | some _ => true
  | none => false
noncomputable def stepI (d : Option Nat) (i : Nat) (V V' : VSt) (f : Foot) (info : List (Nat × Nat × List Nat)) : Option (List (Nat × Nat × List Nat)) :=
  match allK V'.H fun T => hasO V T || isD d T with
  | false => none
  | true => match d with
    | none => some info
    | some d => match hasO V' d && !hasO V d with
      | false => some info
      | true => match allK V.H fun T => memB T f.src || hasO V' T with
        | false => none
        | true => match f.src with
          | [] => some ((d, d, [i]) :: info)
          | [O] => some ((d, (infoOf O info).1, i :: (infoOf O info).2) :: info)
          | _ => none
def pairsB (feet : List (List Nat × List Nat)) : List (Nat × Nat) → Bool
  | [] => true
  | (i, j) :: l => (match feet[i]? with
    | some a => match feet[j]? with
      | some b => disjB a.2 b.1 && (disjB b.2 a.1 && disjB a.2 b.2)
      | none => false
    | none => false) && pairsB feet l
def evD (ahead : List (List Nat)) (pairs : List (Nat × Nat)) : List AOper → Nat → VSt → List (Nat × Nat × List Nat) → List (List Nat × List Nat) → (VSt → Prop) → Prop
  | [], i, V, _, feet, k => match Nat.beq ahead.length i && pairsB feet pairs with
    | true => k V
    | false => False
  | o :: l, i, V, info, feet, k => evO sh prog nt V o fun V' => match foot V o with
    | none => False
    | some f => match ahead[i]? with
      | none => False
      | some ah => match chainsOk info ah (f.rd ++ f.wr) with
        | false => False
        | true => match stepI o.dst i V V' f info with
          | none => False
          | some info' => evD ahead pairs l (i + 1) V' info' (feet ++ [(rootsOf info f.rd, rootsOf info f.wr)]) k

inductive VCode where
  | skip
  | reg (ops : List AOper)
  | dreg (ops : List AOper) (ahead : List (List Nat)) (pairs : List (Nat × Nat))
  | seq (a b : VCode)
  | cond (c : Opd) (a b : VCode)
  | block (id : Nat) (c : VCode)
  | loop (J : List Ent) (c : VCode)
  | exit (id : Nat)
  | ret
  /-- ways meet behind it -/
  | join (J : List Ent) (c : VCode)
def VCode.code : VCode → ACode
  | .skip => .skip
  | .reg ops => .reg ops
  | .dreg ops ahead pairs => .dreg ops ahead pairs
  | .seq a b => .seq a.code b.code
  | .cond c a b => .cond c a.code b.code
  | .block id c => .block id c.code
  | .loop _ c => .loop c.code
  | .exit id => .exit id
  | .ret => .ret
  | .join _ c => c.code
def condK (c : TV) (a b : Prop) : Prop := match c with
  | .b x => (match x with | true => a | false => b)
  | _ => False
def evK : VCode → VSt → (AExit → VSt → Prop) → Prop
  | .skip, V, k => k .normal V
  | .reg ops, V, k => evOs sh prog nt ops V (k .normal)
  | .dreg ops ahead pairs, V, k => evD sh prog nt ahead pairs ops 0 V [] [] (k .normal)
  | .seq a b, V, k => evK a V fun x V => match x with
    | .normal => evK b V k
    | x => k x V
  | .cond c a b, V, k => rdT V none c fun c => condK c (evK a V k) (evK b V k)
  | .block id c, V, k => evK c V fun x V => match x with
    | .exit i => bif Nat.beq i id then k .normal V else k (.exit i) V
    | x => k x V
  | .loop J c, V, k => ∃ I : Nat → JT J Prop, (∃ n, prJ J V (I n)) ∧ ∀ n, allJ J V0 (I n) fun V => evK c V fun x V => match x with
    | .normal => ∃ m, m < n ∧ prJ J V (I m)
    | x => k x V
  | .exit id, V, k => k (.exit id) V
  | .ret, V, k => k .ret V
  | .join J c, V, k => ∃ I : JT J Prop, (evK c V fun x V => match x with
    | .normal => prJ J V I
    | x => k x V) ∧ allJ J V0 I (k .normal)
end

/-! ### 6. Functions -/
noncomputable def initV : List TV → Nat → VSt → VSt
  | [], _, V => V
  | v :: vs, i, V => initV vs (i + 1) (addE V i (.tr v))
def resOneK (V : VSt) (r : ARes) (k : TV → Prop) : Prop := match r with
  | .tmp t => rdK V none (.t t) fun w => toT V w k
  | .cell t sz => rdK V none (.t t) fun w => match w with
    | .ptr O off => (match V.H.get O with
      | some (.ob v ovs) => match sz with
        | none => (match ovAt off ovs with
          | some w => slOf V w fun es => k (.l es)
          | none => ∃ u, cellT v off = some u ∧ k u)
        | some n => ∃ u, subT v off n = some u ∧ toTs V (ovSub off n ovs) u k
      | _ => False)
    | _ => False
def resK (V : VSt) : List ARes → (List TV → Prop) → Prop
  | [], k => k []
  | r :: rs, k => resOneK V r fun v => resK V rs fun vs => k (v :: vs)
/-- of many results none is a tuple -/
def noTps : List TV → Prop
  | [] => True
  | t :: r => t.isTp = false ∧ noTps r
def tupOk (rs : List TV) : Prop := match rs with
  | [_] => True
  | rs => noTps rs
def tupT : List TV → TV
  | [v] => v
  | vs => .tp vs
/-- what a function answers: its code over values, its results -/
def evFn (sh : Sh) (prog : Map AFunc) (af : AFunc) (vc : VCode) (ts : List TV) (Q : TV → Prop) : Prop :=
  evK sh prog af.nt vc (initV ts 0 V0) fun x V => (match x with | .exit _ => False | _ => True) ∧ resK V af.res fun rs => tupOk rs ∧ Q (tupT rs)
end Go.Ax.V
