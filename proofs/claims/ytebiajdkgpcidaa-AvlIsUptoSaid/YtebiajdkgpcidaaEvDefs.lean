/-
  A small language 'IR' for the bodies of Go functions, and an evaluator of it on values without memory: slices that nobody writes any more are lists; slices and variables that are still written are objects of a small heap that lives as long as the call.
-/
import Derived.Calls
import Derived.Laws.Sem
import Derived.Lib.Bytealg
set_option linter.unusedSimpArgs false
set_option linter.unusedVariables false
namespace Go.Ev

/-- What a memory cell holds, as data: a scalar, or a slice by its elements, each of them by its cells. -/
inductive C where
  | sc (v : Value)
  | sl (l : List (List C))

/-- What a temporary holds. 'old': it may lead to memory that is older than the call. -/
inductive AV where
  | undef
  | s (v : Value)
  | sl (old : Bool) (l : List (List C))
  | nilsl
  | esl
  | row (id n : Nat)
  | ptr (id off : Nat)
  | eptr (id n i k : Nat)
  | daddr (old : Bool) (l : List C)
  | agg (l : List AV)
  | tup (l : List AV)
  | ifc (t : Nat) (v : AV)
  | clos (f : Nat) (caps : List AV)

/-- An object: a variable by its cells; a row that the call itself made ('fr': nobody writes it any more). -/
inductive Obj where
  | dead
  | var (cells : List AV)
  | row (ety sz : Nat) (old fr : Bool) (l : List (List C))

/-- An operand. -/
inductive O where
  | t (i : Nat)
  | k (v : Value)
  | g (g : Nat)
  | f (f : Nat)

/-- What a comparison is told of its operands' type. -/
inductive TK where
  | plain
  | bool
  | iface (e : Nat) (c : Bool)
  | ptr
  | slice
  | arr (n : Nat)

inductive Op1 where
  | mv (x : O)
  | cn (x : O)
  | pick (c a b : O)
  | new (slot : Nat) (zero : List Value)
  | box (slot sz : Nat) (x : O)
  | build (zero : List Value) (parts : List (Nat × Nat × O))
  | litd (sz n : Nat) (zero : List Value) (parts : List (Nat × O))
  | lit (slot ety sz n : Nat) (zero : List Value) (parts : List (Nat × O))
  | nilc (x : O)
  | bin (tk : TK) (op : BinOp) (x y : O)
  | un (op : UnOp) (x : O)
  | conv (k : IntKind) (x : O)
  | s2b (x : O)
  | mki (t : Nat) (x : O)
  | mkf (f : Nat) (caps : List O)
  | make (slot ety sz bytes : Nat) (zero : List Value) (n c : O)
  | slice (sz : Nat) (x : O) (lo hi mx : Option O)
  | slices (x : O) (lo hi : Option O)
  | fa (off : Nat) (x : O)
  | fld (off sz : Nat) (ag : Bool) (x : O)
  | iap (n sz : Nat) (x i : O)
  | ix (n sz : Nat) (ag : Bool) (x i : O)
  | ixs (x i : O)
  | ext (i : Nat) (x : O)
  | mx (x y : O)
  | mn (x y : O)
  | capn (x : O)
  | qcall (f : Nat) (args : List O) (outs : List Nat)
  | load (ag : Bool) (sz : Nat) (a : O)
  | b2s (x : O)
  | cmpb (x y : O)
  | ia (sz : Nat) (x i : O)
  | len (str : Bool) (x : O)
  | store (sz : Nat) (a x : O)
  | call (f : Nat) (args : List O) (outs : List Nat)
  | callv (g : O) (args : List O) (outs : List Nat)
  | bcall (f : Nat) (args : List O) (outs : List Nat)
  | app (slot ety sz bytes : Nat) (x y : O)
  | appz (slot ety sz bytes : Nat) (zero : List Value) (x n : O)
  | trunc (slot : Nat) (x : O) (hi : O)
  | markb (x : O)
  | trap

/-- Its class: 'p' looks at operands alone (and makes new objects); 'r' looks at the heap; 'w' writes it. -/
inductive Cls where
  | p | r | w
deriving DecidableEq

def Op1.cls : Op1 → Cls
  | .load .. | .b2s .. | .cmpb .. | .ia .. | .len .. => .r
  | .store .. | .call .. | .callv .. | .bcall .. | .app .. | .appz .. | .trunc .. | .markb .. => .w
  | _ => .p

structure Opr where
  dst : Option Nat
  op : Op1
  g : Option (Nat × Bool)
  fz : List Nat

def Opr.cls (o : Opr) : Cls := if o.fz.isEmpty then o.op.cls else .w

inductive IR where
  | skip
  | reg (pairs : List (Nat × Nat)) (ops : List Opr)
  | seq (a b : IR)
  | cond (c : O) (a b : IR)
  | block (id : Nat) (keep : List Bool) (b : IR)
  | loop (keep : List Bool) (b : IR)
  | exit (id : Nat) (keep : List Bool)
  | ret (keep : List Bool)

inductive Res where
  | tmp (t : Nat)
  | cell (t : Nat) (ag : Bool) (sz : Nat)

structure Fn where
  na : Nat
  nt : Nat
  ns : Nat
  body : IR
  res : List Res
  keep : List Bool
  nilq : Bool
  raw : List Bool

abbrev Heap := List (Option Obj)

structure St where
  t : List AV
  h : Heap

inductive Ex where
  | normal
  | exit (id : Nat)
  | ret

/-- What package-level variables hold; 'gf': there are none. -/
structure Cf where
  G : Nat → List C
  gf : Bool

/-- A function may stand in the table in several ways. -/
def real (f : Nat) : Nat := if f < 1000000 then f else f - 1000000

abbrev FnEv := Nat → List AV → List Obj → Option (List AV × List Obj)

/-! ### References, renaming, ages -/
mutual
def AV.refs : AV → List Nat
  | .row id _ | .ptr id _ | .eptr id _ _ _ => [id]
  | .agg l | .tup l | .clos _ l => refsL l
  | .ifc _ v => v.refs
  | _ => []
def refsL : List AV → List Nat
  | [] => []
  | a :: r => a.refs ++ refsL r
end
mutual
def AV.ren (r : Nat → Nat) : AV → AV
  | .row id n => .row (r id) n
  | .ptr id o => .ptr (r id) o
  | .eptr id n i k => .eptr (r id) n i k
  | .agg l => .agg (renL r l)
  | .tup l => .tup (renL r l)
  | .clos f l => .clos f (renL r l)
  | .ifc t v => .ifc t (v.ren r)
  | v => v
def renL (r : Nat → Nat) : List AV → List AV
  | [] => []
  | a :: l => a.ren r :: renL r l
end
mutual
def AV.age (b : Bool) : AV → AV
  | .sl _ l => .sl b l
  | .daddr _ l => .daddr b l
  | .agg l => .agg (ageL b l)
  | .tup l => .tup (ageL b l)
  | .clos f l => .clos f (ageL b l)
  | .ifc t v => .ifc t (v.age b)
  | v => v
def ageL (b : Bool) : List AV → List AV
  | [] => []
  | a :: l => a.age b :: ageL b l
end
mutual
def AV.isOld : AV → Bool
  | .sl b _ | .daddr b _ => b
  | .agg l | .tup l | .clos _ l => isOldL l
  | .ifc _ v => v.isOld
  | _ => false
def isOldL : List AV → Bool
  | [] => false
  | a :: l => a.isOld || isOldL l
end

def Obj.refs : Obj → List Nat
  | .var l => refsL l
  | _ => []
def Obj.ren (r : Nat → Nat) : Obj → Obj
  | .var l => .var (renL r l)
  | o => o
def Obj.age (b : Bool) : Obj → Obj
  | .var l => .var (ageL b l)
  | .row e s _ f l => .row e s b f l
  | o => o
def Obj.isOld : Obj → Bool
  | .var l => isOldL l
  | .row _ _ o _ _ => o
  | _ => false

def getO (h : Heap) (id : Nat) : Option Obj := h.getD id none
def refsO (h : Heap) (id : Nat) : List Nat := match getO h id with | some o => o.refs | none => []

def reachN : Nat → Heap → List Nat → List Nat → List Nat
  | 0, _, _, seen => seen
  | _ + 1, _, [], seen => seen
  | n + 1, h, i :: w, seen => if seen.contains i then reachN n h w seen else reachN n h (refsO h i ++ w) (seen ++ [i])

def reach (h : Heap) (ids : List Nat) : List Nat := reachN 100 h ids []

/-- All that the roots and the objects named lead to is named, and is there. -/
def closed (h : Heap) (roots ids : List Nat) : Bool :=
  roots.all ids.contains && ids.all fun i => (getO h i).isSome && (refsO h i).all ids.contains

/-! ### Values -/
def ofV1 : Value → AV
  | .slice none 0 0 => .nilsl
  | v => .s v
def ofV : Value → AV
  | .slice none 0 0 => .nilsl
  | .agg cs => .agg (cs.toList.map ofV1)
  | v => .s v

def cOf : Value → C
  | .slice none 0 0 => .sl []
  | v => .sc v

def AV.toC : AV → Option C
  | .s v => if v.oneCell' then some (.sc v) else none
  | .sl _ l => some (.sl l)
  | .nilsl => some (.sl [])
  | _ => none

def ofC (old : Bool) : C → AV
  | .sc v => .s v
  | .sl l => .sl old l

/-- A value's cells. -/
def AV.cells : AV → List AV
  | .agg l => l
  | v => [v]

def toCs : List AV → Option (List C)
  | [] => some []
  | a :: l => match a.toC, toCs l with
    | some c, some r => some (c :: r)
    | _, _ => none

/-- May it stand in a memory cell? -/
def AV.cellOk : AV → Bool
  | .s v => v.oneCell'
  | .undef | .agg _ | .tup _ => false
  | _ => true

def szOk (sz : Nat) (l : List (List C)) : Bool := l.all fun e => e.length == sz

def cmpI : BinOp → Int → Int → Option Bool
  | .eql, a, b => some (a == b)
  | .neq, a, b => some (a != b)
  | .lss, a, b => some (decide (a < b))
  | .leq, a, b => some (decide (a ≤ b))
  | .gtr, a, b => some (decide (a > b))
  | .geq, a, b => some (decide (a ≥ b))
  | _, _, _ => none

def bitsI (k : IntKind) (op : BinOp) (x y : Int) : Option Int :=
  match op with
  | .and => some (k.wrap (BitVec.ofInt k.bits x &&& BitVec.ofInt k.bits y).toNat)
  | .or => some (k.wrap (BitVec.ofInt k.bits x ||| BitVec.ofInt k.bits y).toNat)
  | .xor => some (k.wrap (BitVec.ofInt k.bits x ^^^ BitVec.ofInt k.bits y).toNat)
  | .andNot => some (k.wrap (BitVec.ofInt k.bits x &&& ~~~BitVec.ofInt k.bits y).toNat)
  | _ => none

def arithI (k : IntKind) (op : BinOp) (x y : Int) : Option Int :=
  match op with
  | .add => some (k.wrap (x + y))
  | .sub => some (k.wrap (x - y))
  | .mul => some (k.wrap (x * y))
  | .quo => if y = 0 then none else some (k.wrap (x.tdiv y))
  | .rem => if y = 0 then none else some (x.tmod y)
  | op => bitsI k op x y

def shiftI (k : IntKind) (op : BinOp) (x y : Int) : Option Int :=
  if y < 0 then none else
  match op with
  | .shl => some (k.wrap (x * 2 ^ (min y.toNat k.bits)))
  | .shr => some (x.fdiv (2 ^ (min y.toNat k.bits)))
  | _ => none

def strOp : BinOp → ByteArray → ByteArray → Option Value
  | .add, x, y => if ((x.size + y.size : Nat) : Int) > IntKind.i64.max then none else some (.string (x ++ y))
  | .eql, x, y => some (.bool (x.toList == y.toList))
  | .neq, x, y => some (.bool !(x.toList == y.toList))
  | .lss, x, y => some (.bool (Op.bytesLess x.toList y.toList))
  | .leq, x, y => some (.bool (Op.bytesLess x.toList y.toList || x.toList == y.toList))
  | .gtr, x, y => some (.bool !(Op.bytesLess x.toList y.toList || x.toList == y.toList))
  | .geq, x, y => some (.bool !(Op.bytesLess x.toList y.toList))
  | _, _, _ => none

def negIf : BinOp → Bool → Option Bool
  | .eql, b => some b
  | .neq, b => some !b
  | _, _ => none

def eqIface (e : Nat) (c : Bool) : Value → Value → Option Bool
  | .nilIface, .nilIface => if c then some true else none
  | .nilIface, .iface _ _ => some false
  | .iface _ _, .nilIface => some false
  | .iface t (.int k a), .iface u (.int k' b) => if t = u then (if t = e ∧ k = k' then some (a == b) else none) else some false
  | _, _ => none

def binV (tk : TK) (op : BinOp) : Value → Value → Option Value
  | .int k a, .int k' b =>
    match op with
    | .shl | .shr => (shiftI k op a b).map (.int k)
    | .eql | .neq | .lss | .leq | .gtr | .geq => if k = k' then (cmpI op a b).map .bool else none
    | op => if k = k' then (arithI k op a b).map (.int k) else none
  | .string a, .string b => strOp op a b
  | .bool a, .bool b => match tk with
    | .bool => (negIf op (a == b)).map .bool
    | _ => none
  | x, y => match tk with
    | .iface e c => ((eqIface e c x y).bind (negIf op)).map .bool
    | .ptr => match x, y with
      | .pointer none, .pointer none => (negIf op true).map .bool
      | _, _ => none
    | _ => none

/-- An array's elements, all of them whole numbers of a kind. -/
def ints : List AV → Option (List (IntKind × Int))
  | [] => some []
  | .s (.int k n) :: l => match ints l with
    | some r => some ((k, n) :: r)
    | none => none
  | _ => none

def eqInts : List (IntKind × Int) → List (IntKind × Int) → Option Bool
  | [], [] => some true
  | (k, a) :: x, (k', b) :: y => if k = k' then (match eqInts x y with
    | some r => some ((a == b) && r)
    | none => none) else none
  | _, _ => none

def binA (tk : TK) (op : BinOp) (x y : AV) : Option Value :=
  match x, y with
  | .s a, .s b => binV tk op a b
  | .agg a, .agg b => match tk with
    | .arr n => if a.length = n ∧ b.length = n then (match ints a, ints b with
      | some a, some b => ((eqInts a b).bind (negIf op)).map .bool
      | _, _ => none) else none
    | _ => none
  | .nilsl, .nilsl => match tk with
    | .slice => (negIf op true).map .bool
    | _ => none
  | .sl _ (_ :: _), .nilsl => match tk with
    | .slice => (negIf op false).map .bool
    | _ => none
  | .esl, .nilsl => match tk with
    | .slice => (negIf op false).map .bool
    | _ => none
  | .ptr _ _, .s (.pointer none) => match tk with
    | .ptr => (negIf op false).map .bool
    | _ => none
  | .ifc _ _, .s .nilIface => match tk with
    | .iface _ _ => (negIf op false).map .bool
    | _ => none
  | _, _ => none

def unA : UnOp → AV → Option Value
  | .neg, .s (.int k n) => some (.int k (k.wrap (0 - n)))
  | .xor, .s (.int k n) => (bitsI k .xor (if k.signed then -1 else k.max) n).map (.int k)
  | .not, .s (.bool b) => some (.bool !b)
  | _, _ => none

/-- The bytes of a slice of bytes, if it is one. -/
def bytesOf : List (List C) → Option (List UInt8)
  | [] => some []
  | [.sc (.int .u8 n)] :: l => match bytesOf l with
    | some r => some (UInt8.ofNat n.toNat :: r)
    | none => none
  | _ => none

def eB (l : List UInt8) : List (List C) := l.map fun b => [.sc (.int .u8 (b.toNat : Int))]

/-- Parts laid into cells. -/
def fillA (cells : List AV) : List (Nat × List AV) → List AV
  | [] => cells
  | (off, p) :: r => fillA (cells.take off ++ p ++ cells.drop (off + p.length)) r

def fillE (els : List (List C)) : List (Nat × List C) → List (List C)
  | [] => els
  | (i, e) :: r => fillE (els.set i e) r

def AV.canon1 : AV → AV
  | .nilsl => .sl true []
  | v => v
/-- No slice is known to be nil. -/
def AV.canon : AV → AV
  | .agg l => .agg (l.map AV.canon1)
  | v => v.canon1
/-- Arguments: no slice is known to be nil, but of those that are written. -/
def canonA : List Bool → List AV → List AV
  | true :: k, a :: l => a :: canonA k l
  | false :: k, a :: l => a.canon :: canonA k l
  | [], a :: l => a.canon :: canonA [] l
  | _, [] => []

section
variable (G : Cf) (t : List AV)

def rho : O → AV
  | .t i => t.getD i .undef
  | .k v => ofV v
  | .g g => .daddr true (G.G g)
  | .f f => .clos f []

def partsA (sz : List (Nat × Nat × O)) : Option (List (Nat × List AV)) :=
  match sz with
  | [] => some []
  | (off, n, x) :: r => match partsA r with
    | some ps => if (rho G t x).cells.length = n ∧ (rho G t x).cells.all AV.cellOk then some ((off, (rho G t x).cells) :: ps) else none
    | none => none

def partsE (sz n : Nat) (l : List (Nat × O)) : Option (List (Nat × List C)) :=
  match l with
  | [] => some []
  | (i, x) :: r => match partsE sz n r, toCs (rho G t x).cells with
    | some ps, some e => if e.length = sz ∧ i < n then some ((i, e) :: ps) else none
    | _, _ => none

/-- A bound of a slice expression, at most 'y'. -/
def bound (y : Nat) (x : O) : Option Nat := match rho G t x with
  | .s (.int _ i) => if 0 ≤ i ∧ i ≤ y then some i.toNat else none
  | _ => none

/-- The bounds of a slice expression over 'n' elements: where it begins, where it ends. -/
def bounds (n : Nat) (lo hi mx : Option O) : Option (Nat × Nat) :=
  match (match mx, hi with
    | none, none => some n
    | none, some h => bound G t n h
    | some m, some h => match bound G t n m with
      | some m => bound G t m h
      | none => none
    | some _, none => none) with
  | some h => match lo with
    | none => some (0, h)
    | some x => match bound G t h x with
      | some l => some (l, h)
      | none => none
  | none => none

def isOldParts : List (Nat × O) → Bool
  | [] => false
  | (_, x) :: r => (rho G t x).isOld || isOldParts r

def finishCall (rs : List AV) : AV := match rs with
  | [r] => r
  | rs => .tup rs

def evP (F : FnEv) : Op1 → Option (AV × List (Nat × Obj))
  | .mv x => some (rho G t x, [])
  | .cn x => some ((rho G t x).canon, [])
  | .pick c a b => match rho G t c with
    | .s (.bool true) => some (rho G t a, [])
    | .s (.bool false) => some (rho G t b, [])
    | _ => none
  | .new slot zero => some (.ptr slot 0, [(slot, .var (zero.map ofV1))])
  | .box slot sz x => if (rho G t x).cells.length = sz ∧ (rho G t x).cells.all AV.cellOk then some (.ptr slot 0, [(slot, .var (rho G t x).cells)]) else none
  | .build zero parts => match partsA G t parts with
    | some ps => some (.agg (fillA (zero.map ofV1) ps), [])
    | none => none
  | .litd sz n zero parts => match partsE G t sz n parts with
    | some ps => some (.sl (isOldParts G t parts) (fillE (List.replicate n (zero.map cOf)) ps), [])
    | none => none
  | .lit slot ety sz n zero parts => match partsE G t sz n parts with
    | some ps => some (.row slot n, [(slot, .row ety sz (isOldParts G t parts) false (fillE (List.replicate n (zero.map cOf)) ps))])
    | none => none
  | .nilc x => match rho G t x with
    | .ptr id o => some (.ptr id o, [])
    | .eptr id n i k => some (.eptr id n i k, [])
    | .daddr o l => some (.daddr o l, [])
    | .clos f l => some (.clos f l, [])
    | _ => none
  | .bin tk op x y => match binA tk op (rho G t x) (rho G t y) with
    | some v => some (.s v, [])
    | none => none
  | .un op x => match unA op (rho G t x) with
    | some v => some (.s v, [])
    | none => none
  | .conv k x => match rho G t x with
    | .s (.int _ n) => some (.s (.int k (k.wrap n)), [])
    | _ => none
  | .s2b x => match rho G t x with
    | .s (.string s) => some (.sl false (eB s.data.toList), [])
    | _ => none
  | .mki ty x => match rho G t x with
    | .s v => if v.oneCell' then some (.s (.iface ty v), []) else none
    | .ptr id o => some (.ifc ty (.ptr id o), [])
    | _ => none
  | .mkf f caps => some (.clos f (caps.map (rho G t)), [])
  | .make slot ety sz bytes zero n c => match rho G t n, rho G t c with
    | .s (.int .i64 n), .s (.int .i64 c) => if n = c ∧ 0 ≤ n ∧ n * bytes ≤ 140737488355328 ∧ n ≤ 140737488355328 then some (.row slot n.toNat, [(slot, .row ety sz false false (List.replicate n.toNat (zero.map cOf)))]) else none
    | _, _ => none
  | .slice sz x lo hi mx => match rho G t x with
    | .sl o l => if szOk sz l then (match bounds G t l.length lo hi mx with
      | some (b, h) => some (.sl o ((l.take h).drop b), [])
      | none => none) else none
    | .nilsl => match bounds G t 0 lo hi mx with
      | some _ => some (.nilsl, [])
      | none => none
    | _ => none
  | .slices x lo hi => match rho G t x with
    | .s (.string s) => match bounds G t s.size lo hi none with
      | some (b, h) => some (.s (.string (s.extract b h)), [])
      | none => none
    | _ => none
  | .fa off x => match rho G t x with
    | .ptr id o => some (.ptr id (o + off), [])
    | .eptr id n i k => some (.eptr id n i (k + off), [])
    | .daddr o l => some (.daddr o (l.drop off), [])
    | _ => none
  | .fld off sz ag x => match rho G t x with
    | .agg l => if ag then (if off + sz ≤ l.length then some (.agg ((l.drop off).take sz), []) else none) else (match l[off]? with
      | some v => some (v, [])
      | none => none)
    | _ => none
  | .iap n sz x i => match rho G t x, rho G t i with
    | .ptr id o, .s (.int _ i) => if 0 ≤ i ∧ i < n then some (.ptr id (o + i.toNat * sz), []) else none
    | .daddr o l, .s (.int _ i) => if 0 ≤ i ∧ i < n then some (.daddr o (l.drop (i.toNat * sz)), []) else none
    | _, _ => none
  | .ix n sz ag x i => match rho G t x, rho G t i with
    | .agg l, .s (.int _ i) => if 0 ≤ i ∧ i < n then (if ag then (if i.toNat * sz + sz ≤ l.length then some (.agg ((l.drop (i.toNat * sz)).take sz), []) else none) else (match l[i.toNat * sz]? with
      | some v => some (v, [])
      | none => none)) else none
    | _, _ => none
  | .ixs x i => match rho G t x, rho G t i with
    | .s (.string s), .s (.int _ i) => if 0 ≤ i then (match s.data.toList[i.toNat]? with
      | some b => some (.s (.int .u8 (b.toNat : Int)), [])
      | none => none) else none
    | _, _ => none
  | .ext i x => match rho G t x with
    | .tup l => match l[i]? with
      | some v => some (v, [])
      | none => none
    | _ => none
  | .mx x y => match rho G t x, rho G t y with
    | .s (.int k a), .s (.int _ b) => some (.s (.int k (if b > a then b else a)), [])
    | _, _ => none
  | .mn x y => match rho G t x, rho G t y with
    | .s (.int k a), .s (.int _ b) => some (.s (.int k (if b < a then b else a)), [])
    | _, _ => none
  | .capn x => match rho G t x with
    | .nilsl => some (.s (.int .i64 0), [])
    | _ => none
  | .qcall f args outs =>
    if (refsL (args.map (rho G t))).isEmpty then (match F f (ageL true (args.map (rho G t))) [] with
      | some (rs, os) =>
        if os.length = outs.length then
          some (finishCall (renL (fun i => outs.getD i 0) rs), outs.zip (os.map (Obj.ren (fun i => outs.getD i 0))))
        else none
      | none => none) else none
  | _ => none

/-- A row that is as long as the reference says. -/
def rowAt (h : Heap) (id n : Nat) : Option (Nat × Nat × Bool × Bool × List (List C)) := match getO h id with
  | some (.row e s o f l) => if l.length = n then some (e, s, o, f, l) else none
  | _ => none

/-- A slice's elements, for reading. -/
def elems (h : Heap) : AV → Option (Bool × List (List C))
  | .sl o l => some (o, l)
  | .nilsl => some (false, [])
  | .esl => some (true, [])
  | .row id n => match rowAt h id n with
    | some (_, _, o, _, l) => some (o, l)
    | none => none
  | _ => none

/-- A row, as it can be read. -/
def view (h : Heap) : AV → Option AV
  | .row id n => match rowAt h id n with
    | some (_, _, o, _, l) => some (.sl o l)
    | none => none
  | v => some v
def viewL (h : Heap) : List AV → Option (List AV)
  | [] => some []
  | a :: r => match view h a, viewL h r with
    | some a, some r => some (a :: r)
    | _, _ => none

def ofCs (old : Bool) (ag : Bool) (l : List C) : Option AV := if ag then some (.agg (l.map (ofC old))) else match l with
  | [c] => some (ofC old c)
  | _ => none

def evR (h : Heap) : Op1 → Option AV
  | .load ag sz a => match rho G t a with
    | .ptr id o => match getO h id with
      | some (.var cells) => if o + sz ≤ cells.length then (if ag then some (.agg ((cells.drop o).take sz)) else (if sz = 1 then cells[o]? else none)) else none
      | _ => none
    | .eptr id n i k => match rowAt h id n with
      | some (_, _, old, _, l) => match l[i]? with
        | some e => if k + sz ≤ e.length then ofCs old ag ((e.drop k).take sz) else none
        | none => none
      | none => none
    | .daddr old l => if sz ≤ l.length then ofCs old ag (l.take sz) else none
    | _ => none
  | .b2s x => match elems h (rho G t x) with
    | some (_, l) => match bytesOf l with
      | some bs => some (.s (.string ⟨bs.toArray⟩))
      | none => none
    | none => none
  | .cmpb x y => match elems h (rho G t x), elems h (rho G t y) with
    | some (_, l), some (_, m) => match bytesOf l, bytesOf m with
      | some a, some b => some (.s (.int .i64 (Lib.compareBytes a b)))
      | _, _ => none
    | _, _ => none
  | .ia sz x i => match rho G t x, rho G t i with
    | .sl o l, .s (.int _ i) => if 0 ≤ i ∧ i < l.length then (match l[i.toNat]? with
      | some e => if szOk sz l then some (.daddr o e) else none
      | none => none) else none
    | .row id n, .s (.int _ i) => match rowAt h id n with
      | some (_, sz', _, _, l) => if sz' = sz ∧ 0 ≤ i ∧ i < l.length then some (.eptr id n i.toNat 0) else none
      | none => none
    | _, _ => none
  | .len str x => if str then (match rho G t x with
    | .s (.string s) => some (.s (.int .i64 (s.size : Int)))
    | _ => none) else (match elems h (rho G t x) with
      | some (_, l) => some (.s (.int .i64 (l.length : Int)))
      | none => none)
  | _ => none

/-- Slots that are given new objects: each must be empty. -/
def alloc : List (Nat × Obj) → Heap → Option Heap
  | [], h => some h
  | (i, o) :: r, h => match h[i]? with
    | some none => alloc r (h.set i (some o))
    | _ => none

def putAll : List Nat → List Obj → Heap → Heap
  | i :: is, o :: os, h => putAll is os (h.set i (some o))
  | _, _, h => h

def getAll (h : Heap) : List Nat → Option (List Obj)
  | [] => some []
  | i :: is => match getO h i, getAll h is with
    | some o, some os => some (o :: os)
    | _, _ => none

/-- So many of the slots as there are new objects. -/
def fitO (outs : List Nat) (n k : Nat) : List Nat := outs.take (n - k)
def evCall (F : FnEv) (h : Heap) (f : Nat) (args : List AV) (outs : List Nat) : Option (AV × Heap) :=
  let ids := reach h (refsL args)
  if closed h (refsL args) ids && decide ids.Nodup then
    match getAll h ids with
    | some os =>
      let r := fun i => ids.idxOf i
      match F f (ageL true (renL r args)) (os.map fun o => (o.ren r).age true) with
      | some (rs, os') =>
        if os'.length = ids.length + (fitO outs os'.length ids.length).length then
          let b := fun i => (ids ++ fitO outs os'.length ids.length).getD i 0
          match alloc ((fitO outs os'.length ids.length).zip ((os'.drop ids.length).map (Obj.ren b))) (putAll ids ((os'.take ids.length).map (Obj.ren b)) h) with
          | some h' => some (finishCall (renL b rs), h')
          | none => none
        else none
      | none => none
    | none => none
  else none

def evW (F : FnEv) (h : Heap) : Op1 → Option (AV × Heap)
  | .store sz a x =>
    if (rho G t x).cells.length = sz ∧ (rho G t x).cells.all AV.cellOk then
      (match rho G t a with
      | .ptr id o => match getO h id with
        | some (.var cells) => if o + sz ≤ cells.length then some (.s undef, h.set id (some (.var (cells.take o ++ (rho G t x).cells ++ cells.drop (o + sz))))) else none
        | _ => none
      | .eptr id n i k => match rowAt h id n with
        | some (e, s, old, false, l) => match l[i]?, toCs (rho G t x).cells with
          | some el, some cs => if k + sz ≤ el.length then some (.s undef, h.set id (some (.row e s (old || (rho G t x).isOld) false (l.set i (el.take k ++ cs ++ el.drop (k + sz)))))) else none
          | _, _ => none
        | _ => none
      | _ => none) else none
  | .call f args outs => evCall F h f (args.map (rho G t)) outs
  | .callv g args outs => match rho G t g with
    | .clos f caps => if f < 1000000 then evCall F h f (args.map (rho G t) ++ caps) outs else none
    | _ => none
  | .bcall f args outs => match viewL h (args.map (rho G t)) with
    | some as => if (refsL as).isEmpty then (match F f (ageL true as) [] with
      | some (rs, os) => if os.length = outs.length ∧ isOldL rs = false ∧ os.any Obj.isOld = false then (match alloc (outs.zip (os.map (Obj.ren (fun i => outs.getD i 0)))) h with
        | some h' => some (finishCall (renL (fun i => outs.getD i 0) rs), h')
        | none => none) else none
      | none => none) else none
    | none => none
  | .app slot ety sz bytes x y => match (match rho G t y with
      | .s (.string s) => some (false, eB s.data.toList)
      | v => elems h v) with
    | some (o, m) => if szOk sz m then (match rho G t x with
      | .nilsl => if m.isEmpty then some (.nilsl, h) else if m.length * bytes ≤ 140737488355328 ∧ m.length ≤ 140737488355328 then (match alloc [(slot, .row ety sz o false m)] h with
        | some h' => some (.row slot m.length, h')
        | none => none) else none
      | .row id n => match rowAt h id n with
        | some (e, s, o', false, l) => if e = ety ∧ s = sz ∧ (l.length + m.length) * bytes ≤ 140737488355328 ∧ l.length + m.length ≤ 140737488355328 then some (.row id (l ++ m).length, h.set id (some (.row e s (o' || o) false (l ++ m)))) else none
        | _ => none
      | _ => none) else none
    | none => none
  | .appz slot ety sz bytes zero x n => match rho G t n with
    | .s (.int .i64 m) => if 0 ≤ m ∧ m * bytes ≤ 140737488355328 ∧ m ≤ 140737488355328 then (match rho G t x with
      | .nilsl => if m = 0 then some (.nilsl, h) else (match alloc [(slot, .row ety sz false false (List.replicate m.toNat (zero.map cOf)))] h with
        | some h' => some (.row slot m.toNat, h')
        | none => none)
      | _ => none) else none
    | _ => none
  | .trunc slot x hi => match rho G t x, rho G t hi with
    | .row id n, .s (.int _ i) => match rowAt h id n with
      | some (e, s, o, false, l) => if 0 ≤ i ∧ i ≤ l.length then (match alloc [(slot, .row e s o false (l.take i.toNat))] (h.set id (some .dead)) with
        | some h' => some (.row slot i.toNat, h')
        | none => none) else none
      | _ => none
    | .nilsl, .s (.int _ i) => if i = 0 then some (.nilsl, h) else none
    | _, _ => none
  | .markb x => match rho G t x with
    | .row id n => match rowAt h id n with
      | some (_, _, o, false, l) => some (.sl o l, h.set id (some .dead))
      | _ => none
    | _ => none
  | _ => none
end

/-! ### Freezing -/
def frz1 (h : Heap) : AV → Option (AV × Heap)
  | .row id n => match rowAt h id n with
    | some (e, s, o, _, l) => some (.sl o l, h.set id (some (.row e s o true l)))
    | none => none
  | v => some (v, h)
def frzL (h : Heap) : List AV → Option (List AV × Heap)
  | [] => some ([], h)
  | a :: l => match frz1 h a with
    | some (a', h1) => match frzL h1 l with
      | some (l', h2) => some (a' :: l', h2)
      | none => none
    | none => none
def frz (h : Heap) : AV → Option (AV × Heap)
  | .agg l => match frzL h l with
    | some (l', h') => some (.agg l', h')
    | none => none
  | v => frz1 h v
def frzTs : List Nat → St → Option St
  | [], st => some st
  | i :: r, st => match frz st.h (st.t.getD i .undef) with
    | some (v, h) => frzTs r ⟨st.t.set i v, h⟩
    | none => none

/-! ### Operations, regions -/
def ev1 (G : Cf) (F : FnEv) (st : St) (o : Op1) : Option (AV × Heap) :=
  match o.cls with
  | .p => match evP G st.t F o with
    | some (v, al) => match alloc al st.h with
      | some h => some (v, h)
      | none => none
    | none => none
  | .r => match evR G st.t st.h o with
    | some v => some (v, st.h)
    | none => none
  | .w => evW G st.t F st.h o

def setD (t : List AV) : Option Nat → AV → List AV
  | some d, v => t.set d v
  | none, _ => t

def guardOf (t : List AV) : Option (Nat × Bool) → Option Bool
  | none => some true
  | some (i, b) => match t.getD i .undef with
    | .s (.bool c) => some (c == b)
    | .s (.tuple _) => some false
    | _ => none

def evOp (G : Cf) (F : FnEv) (o : Opr) (st : St) : Option St :=
  match guardOf st.t o.g with
  | some true => match frzTs o.fz st with
    | some st' => match ev1 G F st' o.op with
      | some (v, h) => some ⟨setD st'.t o.dst v, h⟩
      | none => none
    | none => none
  | some false => some ⟨setD st.t o.dst (.s undef), st.h⟩
  | none => none

def evOps (G : Cf) (F : FnEv) : List Opr → St → Option St
  | [], st => some st
  | o :: r, st => match evOp G F o st with
    | some st' => evOps G F r st'
    | none => none

/-! ### Slots -/
def fp (G : Cf) (t : List AV) (h : Heap) : Op1 → List Nat
  | .new s _ | .box s _ _ | .lit s _ _ _ _ _ | .make s _ _ _ _ _ _ => [s]
  | .qcall _ _ outs => outs
  | .load _ _ x | .b2s x | .ia _ x _ | .len _ x | .store _ x _ | .markb x => (rho G t x).refs
  | .cmpb x y => (rho G t x).refs ++ (rho G t y).refs
  | .call _ as outs => reach h (refsL (as.map (rho G t))) ++ outs
  | .callv g as outs => (match rho G t g with
    | .clos _ caps => reach h (refsL (as.map (rho G t) ++ caps))
    | _ => []) ++ outs
  | .bcall _ as outs => refsL (as.map (rho G t)) ++ outs
  | .app s _ _ _ x y => s :: ((rho G t x).refs ++ (rho G t y).refs)
  | .appz s _ _ _ _ x _ => s :: (rho G t x).refs
  | .trunc s x _ => s :: (rho G t x).refs
  | _ => []

/-- The slots that an operation touches, and those that it may change. -/
def foot (G : Cf) (o : Opr) (st : St) : List Nat × List Nat :=
  match guardOf st.t o.g with
  | some true => match frzTs o.fz st with
    | some st' =>
      let l := (o.fz.flatMap fun i => (st.t.getD i .undef).refs) ++ fp G st'.t st'.h o.op
      (l, if o.op.cls = .r ∧ o.fz = [] then [] else l)
    | none => ([], [])
  | _ => ([], [])

def disjL (a b : List Nat) : Bool := a.all fun i => !b.contains i
def disj (a b : List Nat × List Nat) : Bool := disjL a.2 b.1 && disjL b.2 a.1

/-- The footprints of operations, as they are carried out. -/
def feet (G : Cf) (F : FnEv) : List Opr → St → List (List Nat × List Nat)
  | [], _ => []
  | o :: r, st => foot G o st :: (match evOp G F o st with
    | some st' => feet G F r st'
    | none => [])

def okPairs (G : Cf) (F : FnEv) (pairs : List (Nat × Nat)) (ops : List Opr) (st : St) : Bool :=
  pairs.all fun p => disj ((feet G F ops st).getD p.1 ([], [])) ((feet G F ops st).getD p.2 ([], []))

/-! ### Statements -/
def keepT : List Bool → List AV → List AV
  | true :: k, v :: r => v :: keepT k r
  | false :: k, _ :: r => .undef :: keepT k r
  | _, r => r

def prune (ns : Nat) (ids : List Nat) (h : Heap) : Heap := h.mapIdx fun i o => if i < ns && !ids.contains i then none else o

def clean (ns : Nat) (ks : List Bool) (st : St) : St :=
  let t := ageL true (keepT ks st.t)
  let h := st.h.map (Option.map (Obj.age true))
  let roots := refsL t ++ List.range' ns (h.length - ns)
  let ids := reach h roots
  if closed h roots ids then ⟨t, prune ns ids h⟩ else ⟨t, h⟩

/-- The end of a round. -/
def loopEnd (ns : Nat) (ks : List Bool) (r : Option (Ex × St)) : Option (Ex × St) := match r with
  | some (.normal, st) => some (.normal, clean ns ks st)
  | r => r

def loopN (n : Nat) (step : St → Option (Ex × St)) (st : St) : Option (Ex × St) :=
  match n with
  | 0 => none
  | n + 1 => match step st with
    | some (.normal, st') => loopN n step st'
    | r => r

def evIR (G : Cf) (L : (St → Option (Ex × St)) → St → Option (Ex × St)) (F : FnEv) (ns : Nat) : IR → St → Option (Ex × St)
  | .skip, st => some (.normal, st)
  | .reg pairs ops, st => if okPairs G F pairs ops st then (match evOps G F ops st with
    | some st' => some (.normal, st')
    | none => none) else none
  | .seq a b, st => match evIR G L F ns a st with
    | some (.normal, st') => evIR G L F ns b st'
    | r => r
  | .cond c a b, st => match rho G st.t c with
    | .s (.bool true) => evIR G L F ns a st
    | .s (.bool false) => evIR G L F ns b st
    | _ => none
  | .block id k b, st => match evIR G L F ns b st with
    | some (.exit i, st') => if i = id then some (.normal, st') else some (.exit i, st')
    | some (.normal, st') => some (.normal, clean ns k st')
    | r => r
  | .loop k b, st => L (fun st => loopEnd ns k (evIR G L F ns b st)) (clean ns k st)
  | .exit i k, st => some (.exit i, clean ns k st)
  | .ret k, st => some (.ret, clean ns k st)

/-! ### Functions -/
def resOf (st : St) : List Res → Option (List AV)
  | [] => some []
  | .tmp i :: r => match resOf st r with
    | some l => some (st.t.getD i .undef :: l)
    | none => none
  | .cell i ag sz :: r => match evR ⟨fun _ => [], true⟩ st.t st.h (.load ag sz (.t i)), resOf st r with
    | some v, some l => some (v :: l)
    | _, _ => none

def frzC (h : Heap) (a : AV) : Option (AV × Heap) := match frz h a with
  | some (a', h') => some (a'.canon, h')
  | none => none

/-- Results are frozen, but for those that are to stay rows. -/
def frzRes : List Bool → List AV → Heap → Option (List AV × Heap)
  | k, a :: l, h => match (if k.headD false then some (a, h) else frzC h a) with
    | some (a', h1) => match frzRes k.tail l h1 with
      | some (l', h2) => some (a' :: l', h2)
      | none => none
    | none => none
  | _, [], h => some ([], h)

def finish (fn : Fn) (k : Nat) (st : St) : Option (List AV × List Obj) :=
  match resOf st fn.res with
  | some rs0 => match frzRes fn.keep rs0 st.h with
    | some (rs1, h) =>
      let rs := ageL true rs1
      let ins := List.range' fn.ns k
      let roots := refsL rs ++ ins
      let names := ins ++ (reach h roots).filter (· < fn.ns)
      if closed h roots names then
        match getAll h names with
        | some os =>
          let r := fun i => names.idxOf i
          some (renL r rs, os.map fun o => (o.ren r).age true)
        | none => none
      else none
    | none => none
  | none => none

def start (fn : Fn) (args : List AV) (ins : List Obj) : St :=
  ⟨renL (· + fn.ns) args ++ List.replicate (fn.nt - args.length) (.s undef), List.replicate fn.ns none ++ ins.map fun o => some (o.ren (· + fn.ns))⟩

/-- How many results stay rows. -/
def cntT : List Bool → Nat
  | [] => 0
  | true :: k => cntT k + 1
  | false :: k => cntT k
/-- Where a row that was to stay is none, a dead object stands for it. -/
def padR (n : Nat) : Option (List AV × List Obj) → Option (List AV × List Obj)
  | some (rs, os) => some (rs, os ++ List.replicate (n - os.length) .dead)
  | none => none

/-- One function, its arguments as they are. -/
def evFn1 (G : Cf) (L : (St → Option (Ex × St)) → St → Option (Ex × St)) (F : FnEv) (fn : Fn) (args : List AV) (ins : List Obj) : Option (List AV × List Obj) :=
  if args.length = fn.na then (match evIR G L F fn.ns fn.body (start fn args ins) with
    | some (.normal, st) => padR (ins.length + cntT fn.keep) (finish fn ins.length st)
    | some (.ret, st) => padR (ins.length + cntT fn.keep) (finish fn ins.length st)
    | _ => none) else none

/-- Are slices of bytes the same? -/
def eqE : List (List C) → List (List C) → Bool
  | [], [] => true
  | [.sc (.int .u8 a)] :: l, [.sc (.int .u8 b)] :: m => decide (a = b) && eqE l m
  | _, _ => false
/-- Are results the same, so far as can be told? -/
def eqA1 : AV → AV → Bool
  | .sl true l, .sl true m => eqE l m
  | .s (.bool a), .s (.bool b) => decide (a = b)
  | _, _ => false
def eqA1s : List AV → List AV → Bool
  | [], [] => true
  | a :: l, b :: m => eqA1 a b && eqA1s l m
  | _, _ => false
def eqA : AV → AV → Bool
  | .agg l, .agg m => eqA1s l m
  | a, b => eqA1 a b
def eqAs : List AV → List AV → Bool
  | [], [] => true
  | a :: l, b :: m => eqA a b && eqAs l m
  | _, _ => false
/-- Both of two ways come to the same. -/
def both (a b : Option (List AV × List Obj)) : Option (List AV × List Obj) := match a, b with
  | some (rs, []), some (us, []) => if eqAs rs us then some (rs, []) else none
  | _, _ => none

/-- A function ('nilq': of an empty slice it is asked whether it is nil: both ways are gone). -/
def evFnC (G : Cf) (L : (St → Option (Ex × St)) → St → Option (Ex × St)) (F : FnEv) (fn : Fn) (args : List AV) (ins : List Obj) : Option (List AV × List Obj) :=
  if fn.nilq then (match args with
    | [.sl _ []] => both (evFn1 G L F fn [.nilsl] ins) (evFn1 G L F fn [.esl] ins)
    | args => evFn1 G L F fn args ins) else evFn1 G L F fn args ins
def evFn (tab : Nat → Option Fn) (G : Cf) (L : (St → Option (Ex × St)) → St → Option (Ex × St)) (F : FnEv) : FnEv := fun f args ins =>
  match tab f with
  | some fn => evFnC G L F fn (canonA fn.raw args) ins
  | none => none

def evN (tab : Nat → Option Fn) (G : Cf) : Nat → FnEv
  | 0 => fun _ _ _ => none
  | n + 1 => evFn tab G (fun s st => loopN n s st) (evN tab G n)

end Go.Ev
