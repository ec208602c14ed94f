/-
  A small language 'IR' for the bodies of Go functions, and an evaluator of it on values without memory: slices that nobody writes any more are lists; slices and variables that are still written are objects of a small heap that lives as long as the call.
-/
import Derived.Calls
import Derived.Laws.Sem
import Derived.Lib.Bytealg
import Derived.Laws.Rows
import Derived.Laws.Entries
import GoSem.ClaimData
import Derived.Laws.Tables
set_option linter.unusedSimpArgs false
set_option linter.unusedVariables false
namespace Go.Ev
inductive C where
 | sc (v : Value)
 | sl (l : List (List C))
inductive AV where
 | undef
 | s (v : Value)
 | sl (old : Bool) (l : List (List C))
 | nilsl
 | esl
 | row (id n : Nat)
 | ptr (id off : Nat)
 | mp (id : Nat)
 | eptr (id n i k : Nat)
 | daddr (old : Bool) (l : List C)
 | agg (l : List AV)
 | tup (l : List AV)
 | ifc (t : Nat) (v : AV)
 | clos (f : Nat) (caps : List AV)
inductive Big where
 | lines (l : Nat → Option (List (List UInt8)))
 | flags (f : Nat → Bool)
inductive Obj where
 | dead
 | big (d : Big)
 | var (cells : List AV)
 | row (ety sz : Nat) (old fr : Bool) (l : List (List C))
inductive O where
 | t (i : Nat)
 | k (v : Value)
 | g (g : Nat)
 | f (f : Nat)
inductive TK where
 | plain
 | bool
 | iface (e : Nat) (c : Bool)
 | ptr
 | slice
 | arr (n : Nat)
inductive Op1 where
 | mv (x : O)
 | cn (x : O)
 | pick (c a b : O)
 | new (slot : Nat) (zero : List Value)
 | box (slot sz : Nat) (x : O)
 | build (zero : List Value) (parts : List (Nat × Nat × O))
 | litd (sz n : Nat) (zero : List Value) (parts : List (Nat × O))
 | lit (slot ety sz n : Nat) (zero : List Value) (parts : List (Nat × O))
 | nilc (x : O)
 | bin (tk : TK) (op : BinOp) (x y : O)
 | un (op : UnOp) (x : O)
 | conv (k : IntKind) (x : O)
 | s2b (x : O)
 | mki (t : Nat) (x : O)
 | mkf (f : Nat) (caps : List O)
 | make (slot ety sz bytes : Nat) (zero : List Value) (n c : O)
 | slice (sz : Nat) (x : O) (lo hi mx : Option O)
 | slices (x : O) (lo hi : Option O)
 | fa (off : Nat) (x : O)
 | fld (off sz : Nat) (ag : Bool) (x : O)
 | iap (n sz : Nat) (x i : O)
 | ix (n sz : Nat) (ag : Bool) (x i : O)
 | ixs (x i : O)
 | ext (i : Nat) (x : O)
 | mx (x y : O)
 | mn (x y : O)
 | capn (x : O)
 | qcall (f : Nat) (args : List O) (outs : List Nat)
 | load (ag : Bool) (sz : Nat) (a : O)
 | b2s (x : O)
 | cmpb (x y : O)
 | eqp (ne : Bool) (tp : Nat) (x y : O)
 | ia (sz : Nat) (x i : O)
 | len (str : Bool) (x : O)
 | store (sz : Nat) (a x : O)
 | call (f : Nat) (args : List O) (outs : List Nat)
 | callv (g : O) (args : List O) (outs : List Nat)
 | bcall (f : Nat) (args : List O) (outs : List Nat)
 | app (slot ety sz bytes : Nat) (x y : O)
 | appz (slot ety sz bytes : Nat) (zero : List Value) (x n : O)
 | trunc (slot : Nat) (x : O) (hi : O)
 | markb (x : O)
 | trap
inductive Cls where
 | p | r | w
deriving DecidableEq
def Op1.cls : Op1 → Cls
 | .load .. | .b2s .. | .cmpb .. | .eqp .. | .ia .. | .len .. => .r
 | .store .. | .call .. | .callv .. | .bcall .. | .app .. | .appz .. | .trunc .. | .markb .. => .w
 | _ => .p
structure Opr where
 dst : Option Nat
 op : Op1
 g : Option (Nat × Bool)
 fz : List Nat
def Opr.cls (o : Opr) : Cls := if o.fz.isEmpty then o.op.cls else .w
inductive IR where
 | skip
 | reg (pairs : List (Nat × Nat)) (ops : List Opr)
 | seq (a b : IR)
 | cond (c : O) (a b : IR)
 | block (id : Nat) (keep : List Bool) (b : IR)
 | loop (keep : List Bool) (b : IR)
 | exit (id : Nat) (keep : List Bool)
 | ret (keep : List Bool)
inductive Res where
 | tmp (t : Nat)
 | cell (t : Nat) (ag : Bool) (sz : Nat)
structure Fn where
 na : Nat
 nt : Nat
 ns : Nat
 body : IR
 res : List Res
 keep : List Bool
 nilq : Bool
 raw : List Bool
 young : Bool
abbrev Heap := List (Option Obj)
structure St where
 t : List AV
 h : Heap
inductive Ex where
 | normal
 | exit (id : Nat)
 | ret
abbrev FnEv := Nat → List AV → List Obj → Option (List AV × List Obj)
structure BigRel where
 rel : Big → World → (Nat → Nat → Prop) → Nat → (Nat → Prop) → Prop
 mono : ∀ {d : Big} {w w' : World} {S S' : Nat → Nat → Prop} {b : Nat} {Ω : Nat → Prop}, rel d w S b Ω → w'.heap[b]? = w.heap[b]? → (∀ c, Ω c → w'.heap[c]? = w.heap[c]?) → (∀ b o, S b o → S' b o ∧ w'.cell? ⟨b, o, none⟩ = w.cell? ⟨b, o, none⟩) →
  (∀ c o, Ω c → S' c o → S c o) → rel d w' S' b Ω
 lt : ∀ {d : Big} {w : World} {S : Nat → Nat → Prop} {b : Nat} {Ω : Nat → Prop}, rel d w S b Ω → b < w.heap.size
def noBig : BigRel := ⟨fun _ _ _ _ _ => False, fun h => h.elim, fun h => h.elim⟩
structure Cf where
 G : Nat → List C
 gf : Bool
 X : FnEv
 B : BigRel
def noX : FnEv := fun _ _ _ => none
def real (f : Nat) : Nat := if f < 1000000 then f else f - 1000000
mutual
def AV.refs : AV → List Nat
 | .row id _ | .ptr id _ | .eptr id _ _ _ | .mp id => [id]
 | .agg l | .tup l | .clos _ l => refsL l
 | .ifc _ v => v.refs
 | _ => []
def refsL : List AV → List Nat
 | [] => []
 | a :: r => a.refs ++ refsL r
end
mutual
def AV.ren (r : Nat → Nat) : AV → AV
 | .row id n => .row (r id) n
 | .ptr id o => .ptr (r id) o
 | .mp id => .mp (r id)
 | .eptr id n i k => .eptr (r id) n i k
 | .agg l => .agg (renL r l)
 | .tup l => .tup (renL r l)
 | .clos f l => .clos f (renL r l)
 | .ifc t v => .ifc t (v.ren r)
 | v => v
def renL (r : Nat → Nat) : List AV → List AV
 | [] => []
 | a :: l => a.ren r :: renL r l
end
mutual
def AV.age (b : Bool) : AV → AV
 | .sl _ l => .sl b l
 | .daddr _ l => .daddr b l
 | .agg l => .agg (ageL b l)
 | .tup l => .tup (ageL b l)
 | .clos f l => .clos f (ageL b l)
 | .ifc t v => .ifc t (v.age b)
 | v => v
def ageL (b : Bool) : List AV → List AV
 | [] => []
 | a :: l => a.age b :: ageL b l
end
mutual
def AV.isOld : AV → Bool
 | .sl b _ | .daddr b _ => b
 | .agg l | .tup l | .clos _ l => isOldL l
 | .ifc _ v => v.isOld
 | _ => false
def isOldL : List AV → Bool
 | [] => false
 | a :: l => a.isOld || isOldL l
end
def Obj.refs : Obj → List Nat
 | .var l => refsL l
 | _ => []
def Obj.ren (r : Nat → Nat) : Obj → Obj
 | .var l => .var (renL r l)
 | o => o
def Obj.age (b : Bool) : Obj → Obj
 | .var l => .var (ageL b l)
 | .row e s _ f l => .row e s b f l
 | o => o
def Obj.isOld : Obj → Bool
 | .var l => isOldL l
 | .row _ _ o _ _ => o
 | .big _ => true
 | _ => false
def getO (h : Heap) (id : Nat) : Option Obj := h.getD id none
def refsO (h : Heap) (id : Nat) : List Nat := match getO h id with | some o => o.refs | none => []
def reachN : Nat → Heap → List Nat → List Nat → List Nat
 | 0, _, _, seen => seen
 | _ + 1, _, [], seen => seen
 | n + 1, h, i :: w, seen => if seen.contains i then reachN n h w seen else reachN n h (refsO h i ++ w) (seen ++ [i])
def reach (h : Heap) (ids : List Nat) : List Nat := reachN 100 h ids []
def closed (h : Heap) (roots ids : List Nat) : Bool :=
 roots.all ids.contains && ids.all fun i => (getO h i).isSome && (refsO h i).all ids.contains
def ofV1 : Value → AV
 | .slice none 0 0 => .nilsl
 | v => .s v
def ofV : Value → AV
 | .slice none 0 0 => .nilsl
 | .agg cs => .agg (cs.toList.map ofV1)
 | v => .s v
def cOf : Value → C
 | .slice none 0 0 => .sl []
 | v => .sc v
def AV.toC : AV → Option C
 | .s v => if v.oneCell' then some (.sc v) else none
 | .sl _ l => some (.sl l)
 | .nilsl => some (.sl [])
 | _ => none
def ofC (old : Bool) : C → AV
 | .sc v => .s v
 | .sl l => .sl old l
def AV.cells : AV → List AV
 | .agg l => l
 | v => [v]
def toCs : List AV → Option (List C)
 | [] => some []
 | a :: l => match a.toC, toCs l with
  | some c, some r => some (c :: r)
  | _, _ => none
def AV.cellOk : AV → Bool
 | .s v => v.oneCell'
 | .undef | .agg _ | .tup _ => false
 | _ => true
def szOk (sz : Nat) (l : List (List C)) : Bool := l.all fun e => e.length == sz
def cmpI : BinOp → Int → Int → Option Bool
 | .eql, a, b => some (a == b)
 | .neq, a, b => some (a != b)
 | .lss, a, b => some (decide (a < b))
 | .leq, a, b => some (decide (a ≤ b))
 | .gtr, a, b => some (decide (a > b))
 | .geq, a, b => some (decide (a ≥ b))
 | _, _, _ => none
def bitsI (k : IntKind) (op : BinOp) (x y : Int) : Option Int :=
 match op with
 | .and => some (k.wrap (BitVec.ofInt k.bits x &&& BitVec.ofInt k.bits y).toNat)
 | .or => some (k.wrap (BitVec.ofInt k.bits x ||| BitVec.ofInt k.bits y).toNat)
 | .xor => some (k.wrap (BitVec.ofInt k.bits x ^^^ BitVec.ofInt k.bits y).toNat)
 | .andNot => some (k.wrap (BitVec.ofInt k.bits x &&& ~~~BitVec.ofInt k.bits y).toNat)
 | _ => none
def arithI (k : IntKind) (op : BinOp) (x y : Int) : Option Int :=
 match op with
 | .add => some (k.wrap (x + y))
 | .sub => some (k.wrap (x - y))
 | .mul => some (k.wrap (x * y))
 | .quo => if y = 0 then none else some (k.wrap (x.tdiv y))
 | .rem => if y = 0 then none else some (x.tmod y)
 | op => bitsI k op x y
def shiftI (k : IntKind) (op : BinOp) (x y : Int) : Option Int :=
 if y < 0 then none else
 match op with
 | .shl => some (k.wrap (x * 2 ^ (min y.toNat k.bits)))
 | .shr => some (x.fdiv (2 ^ (min y.toNat k.bits)))
 | _ => none
def strOp : BinOp → ByteArray → ByteArray → Option Value
 | .add, x, y => if ((x.size + y.size : Nat) : Int) > IntKind.i64.max then none else some (.string (x ++ y))
 | .eql, x, y => some (.bool (x.toList == y.toList))
 | .neq, x, y => some (.bool !(x.toList == y.toList))
 | .lss, x, y => some (.bool (Op.bytesLess x.toList y.toList))
 | .leq, x, y => some (.bool (Op.bytesLess x.toList y.toList || x.toList == y.toList))
 | .gtr, x, y => some (.bool !(Op.bytesLess x.toList y.toList || x.toList == y.toList))
 | .geq, x, y => some (.bool !(Op.bytesLess x.toList y.toList))
 | _, _, _ => none
def negIf : BinOp → Bool → Option Bool
 | .eql, b => some b
 | .neq, b => some !b
 | _, _ => none
def eqIface (e : Nat) (c : Bool) : Value → Value → Option Bool
 | .nilIface, .nilIface => if c then some true else none
 | .nilIface, .iface _ _ => some false
 | .iface _ _, .nilIface => some false
 | .iface t (.int k a), .iface u (.int k' b) => if t = u then (if t = e ∧ k = k' then some (a == b) else none) else some false
 | _, _ => none
def binV (tk : TK) (op : BinOp) : Value → Value → Option Value
 | .int k a, .int k' b =>
  match op with
  | .shl | .shr => (shiftI k op a b).map (.int k)
  | .eql | .neq | .lss | .leq | .gtr | .geq => if k = k' then (cmpI op a b).map .bool else none
  | op => if k = k' then (arithI k op a b).map (.int k) else none
 | .string a, .string b => strOp op a b
 | .bool a, .bool b => match tk with
  | .bool => (negIf op (a == b)).map .bool
  | _ => none
 | x, y => match tk with
  | .iface e c => ((eqIface e c x y).bind (negIf op)).map .bool
  | .ptr => match x, y with
   | .pointer none, .pointer none => (negIf op true).map .bool
   | _, _ => none
  | _ => none
def ints : List AV → Option (List (IntKind × Int))
 | [] => some []
 | .s (.int k n) :: l => match ints l with
  | some r => some ((k, n) :: r)
  | none => none
 | _ => none
def eqInts : List (IntKind × Int) → List (IntKind × Int) → Option Bool
 | [], [] => some true
 | (k, a) :: x, (k', b) :: y => if k = k' then (match eqInts x y with
  | some r => some ((a == b) && r)
  | none => none) else none
 | _, _ => none
def binA (tk : TK) (op : BinOp) (x y : AV) : Option Value :=
 match x, y with
 | .s a, .s b => binV tk op a b
 | .agg a, .agg b => match tk with
  | .arr n => if a.length = n ∧ b.length = n then (match ints a, ints b with
   | some a, some b => ((eqInts a b).bind (negIf op)).map .bool
   | _, _ => none) else none
  | _ => none
 | .nilsl, .nilsl => match tk with
  | .slice => (negIf op true).map .bool
  | _ => none
 | .sl _ (_ :: _), .nilsl => match tk with
  | .slice => (negIf op false).map .bool
  | _ => none
 | .esl, .nilsl => match tk with
  | .slice => (negIf op false).map .bool
  | _ => none
 | .row _ _, .nilsl => match tk with
  | .slice => (negIf op false).map .bool
  | _ => none
 | .ptr _ _, .s (.pointer none) => match tk with
  | .ptr => (negIf op false).map .bool
  | _ => none
 | .ifc _ _, .s .nilIface => match tk with
  | .iface _ _ => (negIf op false).map .bool
  | _ => none
 | _, _ => none
def unA : UnOp → AV → Option Value
 | .neg, .s (.int k n) => some (.int k (k.wrap (0 - n)))
 | .xor, .s (.int k n) => (bitsI k .xor (if k.signed then -1 else k.max) n).map (.int k)
 | .not, .s (.bool b) => some (.bool !b)
 | _, _ => none
def bytesOf : List (List C) → Option (List UInt8)
 | [] => some []
 | [.sc (.int .u8 n)] :: l => match bytesOf l with
  | some r => some (UInt8.ofNat n.toNat :: r)
  | none => none
 | _ => none
def eB (l : List UInt8) : List (List C) := l.map fun b => [.sc (.int .u8 (b.toNat : Int))]
def fillA (cells : List AV) : List (Nat × List AV) → List AV
 | [] => cells
 | (off, p) :: r => fillA (cells.take off ++ p ++ cells.drop (off + p.length)) r
def fillE (els : List (List C)) : List (Nat × List C) → List (List C)
 | [] => els
 | (i, e) :: r => fillE (els.set i e) r
def AV.canon1 : AV → AV
 | .nilsl => .sl true []
 | v => v
def AV.canon : AV → AV
 | .agg l => .agg (l.map AV.canon1)
 | v => v.canon1
def canonA : List Bool → List AV → List AV
 | true :: k, a :: l => a :: canonA k l
 | false :: k, a :: l => a.canon :: canonA k l
 | [], a :: l => a.canon :: canonA [] l
 | _, [] => []
section
variable (G : Cf) (t : List AV)
def rho : O → AV
 | .t i => t.getD i .undef
 | .k v => ofV v
 | .g g => .daddr true (G.G g)
 | .f f => .clos f []
def partsA (sz : List (Nat × Nat × O)) : Option (List (Nat × List AV)) :=
 match sz with
 | [] => some []
 | (off, n, x) :: r => match partsA r with
  | some ps => if (rho G t x).cells.length = n ∧ (rho G t x).cells.all AV.cellOk then some ((off, (rho G t x).cells) :: ps) else none
  | none => none
def partsE (sz n : Nat) (l : List (Nat × O)) : Option (List (Nat × List C)) :=
 match l with
 | [] => some []
 | (i, x) :: r => match partsE sz n r, toCs (rho G t x).cells with
  | some ps, some e => if e.length = sz ∧ i < n then some ((i, e) :: ps) else none
  | _, _ => none
def bound (y : Nat) (x : O) : Option Nat := match rho G t x with
 | .s (.int _ i) => if 0 ≤ i ∧ i ≤ y then some i.toNat else none
 | _ => none
def bounds (n : Nat) (lo hi mx : Option O) : Option (Nat × Nat) :=
 match (match mx, hi with
  | none, none => some n
  | none, some h => bound G t n h
  | some m, some h => match bound G t n m with
   | some m => bound G t m h
   | none => none
  | some _, none => none) with
 | some h => match lo with
  | none => some (0, h)
  | some x => match bound G t h x with
   | some l => some (l, h)
   | none => none
 | none => none
def isOldParts : List (Nat × O) → Bool
 | [] => false
 | (_, x) :: r => (rho G t x).isOld || isOldParts r
def finishCall (rs : List AV) : AV := match rs with
 | [r] => r
 | rs => .tup rs
def evP (F : FnEv) : Op1 → Option (AV × List (Nat × Obj))
 | .mv x => some (rho G t x, [])
 | .cn x => some ((rho G t x).canon, [])
 | .pick c a b => match rho G t c with
  | .s (.bool true) => some (rho G t a, [])
  | .s (.bool false) => some (rho G t b, [])
  | _ => none
 | .new slot zero => some (.ptr slot 0, [(slot, .var (zero.map ofV1))])
 | .box slot sz x => if (rho G t x).cells.length = sz ∧ (rho G t x).cells.all AV.cellOk then some (.ptr slot 0, [(slot, .var (rho G t x).cells)]) else none
 | .build zero parts => match partsA G t parts with
  | some ps => some (.agg (fillA (zero.map ofV1) ps), [])
  | none => none
 | .litd sz n zero parts => match partsE G t sz n parts with
  | some ps => some (.sl (isOldParts G t parts) (fillE (List.replicate n (zero.map cOf)) ps), [])
  | none => none
 | .lit slot ety sz n zero parts => match partsE G t sz n parts with
  | some ps => some (.row slot n, [(slot, .row ety sz (isOldParts G t parts) false (fillE (List.replicate n (zero.map cOf)) ps))])
  | none => none
 | .nilc x => match rho G t x with
  | .ptr id o => some (.ptr id o, [])
  | .eptr id n i k => some (.eptr id n i k, [])
  | .daddr o l => some (.daddr o l, [])
  | .clos f l => some (.clos f l, [])
  | _ => none
 | .bin tk op x y => match binA tk op (rho G t x) (rho G t y) with
  | some v => some (.s v, [])
  | none => none
 | .un op x => match unA op (rho G t x) with
  | some v => some (.s v, [])
  | none => none
 | .conv k x => match rho G t x with
  | .s (.int _ n) => some (.s (.int k (k.wrap n)), [])
  | _ => none
 | .s2b x => match rho G t x with
  | .s (.string s) => some (.sl false (eB s.data.toList), [])
  | _ => none
 | .mki ty x => match rho G t x with
  | .s v => if v.oneCell' then some (.s (.iface ty v), []) else none
  | .ptr id o => some (.ifc ty (.ptr id o), [])
  | _ => none
 | .mkf f caps => some (.clos f (caps.map (rho G t)), [])
 | .make slot ety sz bytes zero n c => match rho G t n, rho G t c with
  | .s (.int .i64 n), .s (.int .i64 c) => if n = c ∧ 0 ≤ n ∧ n * bytes ≤ 140737488355328 ∧ n ≤ 140737488355328 then some (.row slot n.toNat, [(slot, .row ety sz false false (List.replicate n.toNat (zero.map cOf)))]) else none
  | _, _ => none
 | .slice sz x lo hi mx => match rho G t x with
  | .sl o l => if szOk sz l then (match bounds G t l.length lo hi mx with
   | some (b, h) => some (.sl o ((l.take h).drop b), [])
   | none => none) else none
  | .nilsl => match bounds G t 0 lo hi mx with
   | some _ => some (.nilsl, [])
   | none => none
  | _ => none
 | .slices x lo hi => match rho G t x with
  | .s (.string s) => match bounds G t s.size lo hi none with
   | some (b, h) => some (.s (.string (s.extract b h)), [])
   | none => none
  | _ => none
 | .fa off x => match rho G t x with
  | .ptr id o => some (.ptr id (o + off), [])
  | .eptr id n i k => some (.eptr id n i (k + off), [])
  | .daddr o l => some (.daddr o (l.drop off), [])
  | _ => none
 | .fld off sz ag x => match rho G t x with
  | .agg l => if ag then (if off + sz ≤ l.length then some (.agg ((l.drop off).take sz), []) else none) else (match l[off]? with
   | some v => some (v, [])
   | none => none)
  | _ => none
 | .iap n sz x i => match rho G t x, rho G t i with
  | .ptr id o, .s (.int _ i) => if 0 ≤ i ∧ i < n then some (.ptr id (o + i.toNat * sz), []) else none
  | .daddr o l, .s (.int _ i) => if 0 ≤ i ∧ i < n then some (.daddr o (l.drop (i.toNat * sz)), []) else none
  | _, _ => none
 | .ix n sz ag x i => match rho G t x, rho G t i with
  | .agg l, .s (.int _ i) => if 0 ≤ i ∧ i < n then (if ag then (if i.toNat * sz + sz ≤ l.length then some (.agg ((l.drop (i.toNat * sz)).take sz), []) else none) else (match l[i.toNat * sz]? with
   | some v => some (v, [])
   | none => none)) else none
  | _, _ => none
 | .ixs x i => match rho G t x, rho G t i with
  | .s (.string s), .s (.int _ i) => if 0 ≤ i then (match s.data.toList[i.toNat]? with
   | some b => some (.s (.int .u8 (b.toNat : Int)), [])
   | none => none) else none
  | _, _ => none
 | .ext i x => match rho G t x with
  | .tup l => match l[i]? with
   | some v => some (v, [])
   | none => none
  | _ => none
 | .mx x y => match rho G t x, rho G t y with
  | .s (.int k a), .s (.int _ b) => some (.s (.int k (if b > a then b else a)), [])
  | _, _ => none
 | .mn x y => match rho G t x, rho G t y with
  | .s (.int k a), .s (.int _ b) => some (.s (.int k (if b < a then b else a)), [])
  | _, _ => none
 | .capn x => match rho G t x with
  | .nilsl => some (.s (.int .i64 0), [])
  | _ => none
 | .qcall f args outs =>
  if (refsL (args.map (rho G t))).isEmpty then (match F f (ageL true (args.map (rho G t))) [] with
   | some (rs, os) =>
    if os.length = outs.length then
     some (finishCall (renL (fun i => outs.getD i 0) rs), outs.zip (os.map (Obj.ren (fun i => outs.getD i 0))))
    else none
   | none => none) else none
 | _ => none
def rowAt (h : Heap) (id n : Nat) : Option (Nat × Nat × Bool × Bool × List (List C)) := match getO h id with
 | some (.row e s o f l) => if l.length = n then some (e, s, o, f, l) else none
 | _ => none
def elems (h : Heap) : AV → Option (Bool × List (List C))
 | .sl o l => some (o, l)
 | .nilsl => some (false, [])
 | .esl => some (true, [])
 | .row id n => match rowAt h id n with
  | some (_, _, o, _, l) => some (o, l)
  | none => none
 | _ => none
def view (h : Heap) : AV → Option AV
 | .row id n => match rowAt h id n with
  | some (_, _, o, _, l) => some (.sl o l)
  | none => none
 | v => some v
def viewL (h : Heap) : List AV → Option (List AV)
 | [] => some []
 | a :: r => match view h a, viewL h r with
  | some a, some r => some (a :: r)
  | _, _ => none
def ofCs (old : Bool) (ag : Bool) (l : List C) : Option AV := if ag then some (.agg (l.map (ofC old))) else match l with
 | [c] => some (ofC old c)
 | _ => none
def evR (h : Heap) : Op1 → Option AV
 | .load ag sz a => match rho G t a with
  | .ptr id o => match getO h id with
   | some (.var cells) => if o + sz ≤ cells.length then (if ag then some (.agg ((cells.drop o).take sz)) else (if sz = 1 then cells[o]? else none)) else none
   | _ => none
  | .eptr id n i k => match rowAt h id n with
   | some (_, _, old, _, l) => match l[i]? with
    | some e => if k + sz ≤ e.length then ofCs old ag ((e.drop k).take sz) else none
    | none => none
   | none => none
  | .daddr old l => if sz ≤ l.length then ofCs old ag (l.take sz) else none
  | _ => none
 | .b2s x => match elems h (rho G t x) with
  | some (_, l) => match bytesOf l with
   | some bs => some (.s (.string ⟨bs.toArray⟩))
   | none => none
  | none => none
 | .cmpb x y => match elems h (rho G t x), elems h (rho G t y) with
  | some (_, l), some (_, m) => match bytesOf l, bytesOf m with
   | some a, some b => some (.s (.int .i64 (Lib.compareBytes a b)))
   | _, _ => none
  | _, _ => none
 | .eqp ne tp x y => match rho G t x, rho G t y with
  | .ifc e (.ptr i o), .ifc u (.ptr j p) => match getO h i with
   | some (.var _) => if e = tp ∧ u = tp ∧ i = j ∧ o = p then some (.s (.bool (!ne))) else none
   | _ => none
  | _, _ => none
 | .ia sz x i => match rho G t x, rho G t i with
  | .sl o l, .s (.int _ i) => if 0 ≤ i ∧ i < l.length then (match l[i.toNat]? with
   | some e => if szOk sz l then some (.daddr o e) else none
   | none => none) else none
  | .row id n, .s (.int _ i) => match rowAt h id n with
   | some (_, sz', _, _, l) => if sz' = sz ∧ 0 ≤ i ∧ i < l.length then some (.eptr id n i.toNat 0) else none
   | none => none
  | _, _ => none
 | .len str x => if str then (match rho G t x with
  | .s (.string s) => some (.s (.int .i64 (s.size : Int)))
  | _ => none) else (match elems h (rho G t x) with
   | some (_, l) => some (.s (.int .i64 (l.length : Int)))
   | none => none)
 | _ => none
def alloc : List (Nat × Obj) → Heap → Option Heap
 | [], h => some h
 | (i, o) :: r, h => match h[i]? with
  | some none => alloc r (h.set i (some o))
  | _ => none
def putAll : List Nat → List Obj → Heap → Heap
 | i :: is, o :: os, h => putAll is os (h.set i (some o))
 | _, _, h => h
def getAll (h : Heap) : List Nat → Option (List Obj)
 | [] => some []
 | i :: is => match getO h i, getAll h is with
  | some o, some os => some (o :: os)
  | _, _ => none
def fitO (h : Heap) (outs : List Nat) (n k : Nat) : List Nat := (outs.filter fun i => (getO h i).isNone).take (n - k)
def C.isSc : C → Bool
 | .sc _ => true
 | _ => false
def yO (bytes : Nat) (o : Bool) (m : List (List C)) : Bool := if bytes = 1 then o && !(m.all fun e => e.all C.isSc) else o
def evCall (F : FnEv) (h : Heap) (f : Nat) (args : List AV) (outs : List Nat) : Option (AV × Heap) :=
 let ids := reach h (refsL args)
 if closed h (refsL args) ids && decide ids.Nodup then
  match getAll h ids with
  | some os =>
   let r := fun i => ids.idxOf i
   match F f (ageL true (renL r args)) (os.map fun o => (o.ren r).age true) with
   | some (rs, os') =>
    if os'.length = ids.length + (fitO h outs os'.length ids.length).length then
     let b := fun i => (ids ++ fitO h outs os'.length ids.length).getD i 0
     match alloc ((fitO h outs os'.length ids.length).zip ((os'.drop ids.length).map (Obj.ren b))) (putAll ids ((os'.take ids.length).map (Obj.ren b)) h) with
     | some h' => some (finishCall (renL b rs), h')
     | none => none
    else none
   | none => none
  | none => none
 else none
def scRow : Obj → Bool
 | .row _ _ _ false l => l.all fun e => e.all C.isSc
 | .dead => true
 | _ => false
def evW (F : FnEv) (h : Heap) : Op1 → Option (AV × Heap)
 | .store sz a x =>
  if (rho G t x).cells.length = sz ∧ (rho G t x).cells.all AV.cellOk then
   (match rho G t a with
   | .ptr id o => match getO h id with
    | some (.var cells) => if o + sz ≤ cells.length then some (.s undef, h.set id (some (.var (cells.take o ++ (rho G t x).cells ++ cells.drop (o + sz))))) else none
    | _ => none
   | .eptr id n i k => match rowAt h id n with
    | some (e, s, old, false, l) => match l[i]?, toCs (rho G t x).cells with
     | some el, some cs => if k + sz ≤ el.length then some (.s undef, h.set id (some (.row e s (old || (rho G t x).isOld) false (l.set i (el.take k ++ cs ++ el.drop (k + sz)))))) else none
     | _, _ => none
    | _ => none
   | _ => none) else none
 | .call f args outs => evCall F h f (args.map (rho G t)) outs
 | .callv g args outs => match rho G t g with
  | .clos f caps => if f < 1000000 then evCall F h f (args.map (rho G t) ++ caps) outs else none
  | _ => none
 | .bcall f args outs => match viewL h (args.map (rho G t)) with
  | some as => if (refsL as).isEmpty then (match F f (ageL true as) [] with
   | some (rs, os) => if os.length = outs.length ∧ isOldL rs = false ∧ os.all scRow = true then (match alloc (outs.zip (os.map (Obj.ren (fun i => outs.getD i 0)))) h with
    | some h' => some (finishCall (renL (fun i => outs.getD i 0) rs), h')
    | none => none) else none
   | none => none) else none
  | none => none
 | .app slot ety sz bytes x y => match (match rho G t y with
   | .s (.string s) => some (false, eB s.data.toList)
   | v => elems h v) with
  | some (o, m) => if szOk sz m then (match rho G t x with
   | .nilsl => if m.isEmpty then some (.nilsl, h) else if m.length * bytes ≤ 140737488355328 ∧ m.length ≤ 140737488355328 then (match alloc [(slot, .row ety sz (yO bytes o m) false m)] h with
    | some h' => some (.row slot m.length, h')
    | none => none) else none
   | .row id n => match rowAt h id n with
    | some (e, s, o', false, l) => if e = ety ∧ s = sz ∧ (l.length + m.length) * bytes ≤ 140737488355328 ∧ l.length + m.length ≤ 140737488355328 then some (.row id (l ++ m).length, h.set id (some (.row e s (o' || yO bytes o m) false (l ++ m)))) else none
    | _ => none
   | _ => none) else none
  | none => none
 | .appz slot ety sz bytes zero x n => match rho G t n with
  | .s (.int .i64 m) => if 0 ≤ m ∧ m * bytes ≤ 140737488355328 ∧ m ≤ 140737488355328 then (match rho G t x with
   | .nilsl => if m = 0 then some (.nilsl, h) else (match alloc [(slot, .row ety sz false false (List.replicate m.toNat (zero.map cOf)))] h with
    | some h' => some (.row slot m.toNat, h')
    | none => none)
   | _ => none) else none
  | _ => none
 | .trunc slot x hi => match rho G t x, rho G t hi with
  | .row id n, .s (.int _ i) => match rowAt h id n with
   | some (e, s, o, false, l) => if 0 ≤ i ∧ i ≤ l.length then (match alloc [(slot, .row e s o false (l.take i.toNat))] (h.set id (some .dead)) with
    | some h' => some (.row slot i.toNat, h')
    | none => none) else none
   | _ => none
  | .nilsl, .s (.int _ i) => if i = 0 then some (.nilsl, h) else none
  | _, _ => none
 | .markb x => match rho G t x with
  | .row id n => match rowAt h id n with
   | some (_, _, o, false, l) => some (.sl o l, h.set id (some .dead))
   | _ => none
  | _ => none
 | _ => none
end
def frz1 (h : Heap) : AV → Option (AV × Heap)
 | .row id n => match rowAt h id n with
  | some (e, s, o, _, l) => some (.sl o l, h.set id (some (.row e s o true l)))
  | none => none
 | v => some (v, h)
def frzL (h : Heap) : List AV → Option (List AV × Heap)
 | [] => some ([], h)
 | a :: l => match frz1 h a with
  | some (a', h1) => match frzL h1 l with
   | some (l', h2) => some (a' :: l', h2)
   | none => none
  | none => none
def frz (h : Heap) : AV → Option (AV × Heap)
 | .agg l => match frzL h l with
  | some (l', h') => some (.agg l', h')
  | none => none
 | v => frz1 h v
def frzTs : List Nat → St → Option St
 | [], st => some st
 | i :: r, st => match frz st.h (st.t.getD i .undef) with
  | some (v, h) => frzTs r ⟨st.t.set i v, h⟩
  | none => none
def ev1 (G : Cf) (F : FnEv) (st : St) (o : Op1) : Option (AV × Heap) :=
 match o.cls with
 | .p => match evP G st.t F o with
  | some (v, al) => match alloc al st.h with
   | some h => some (v, h)
   | none => none
  | none => none
 | .r => match evR G st.t st.h o with
  | some v => some (v, st.h)
  | none => none
 | .w => evW G st.t F st.h o
def setD (t : List AV) : Option Nat → AV → List AV
 | some d, v => t.set d v
 | none, _ => t
def guardOf (t : List AV) : Option (Nat × Bool) → Option Bool
 | none => some true
 | some (i, b) => match t.getD i .undef with
  | .s (.bool c) => some (c == b)
  | .s (.tuple _) => some false
  | _ => none
def evOp (G : Cf) (F : FnEv) (o : Opr) (st : St) : Option St :=
 match guardOf st.t o.g with
 | some true => match frzTs o.fz st with
  | some st' => match ev1 G F st' o.op with
   | some (v, h) => some ⟨setD st'.t o.dst v, h⟩
   | none => none
  | none => none
 | some false => some ⟨setD st.t o.dst (.s undef), st.h⟩
 | none => none
def evOps (G : Cf) (F : FnEv) : List Opr → St → Option St
 | [], st => some st
 | o :: r, st => match evOp G F o st with
  | some st' => evOps G F r st'
  | none => none
def fp (G : Cf) (t : List AV) (h : Heap) : Op1 → List Nat
 | .new s _ | .box s _ _ | .lit s _ _ _ _ _ | .make s _ _ _ _ _ _ => [s]
 | .qcall _ _ outs => outs
 | .load _ _ x | .b2s x | .ia _ x _ | .len _ x | .store _ x _ | .markb x => (rho G t x).refs
 | .cmpb x y => (rho G t x).refs ++ (rho G t y).refs
 | .eqp _ _ x y => (rho G t x).refs ++ (rho G t y).refs
 | .call _ as outs => reach h (refsL (as.map (rho G t))) ++ outs
 | .callv g as outs => (match rho G t g with
  | .clos _ caps => reach h (refsL (as.map (rho G t) ++ caps))
  | _ => []) ++ outs
 | .bcall _ as outs => refsL (as.map (rho G t)) ++ outs
 | .app s _ _ _ x y => s :: ((rho G t x).refs ++ (rho G t y).refs)
 | .appz s _ _ _ _ x _ => s :: (rho G t x).refs
 | .trunc s x _ => s :: (rho G t x).refs
 | _ => []
def foot (G : Cf) (o : Opr) (st : St) : List Nat × List Nat :=
 match guardOf st.t o.g with
 | some true => match frzTs o.fz st with
  | some st' =>
   let l := (o.fz.flatMap fun i => (st.t.getD i .undef).refs) ++ fp G st'.t st'.h o.op
   (l, if o.op.cls = .r ∧ o.fz = [] then [] else l)
  | none => ([], [])
 | _ => ([], [])
def disjL (a b : List Nat) : Bool := a.all fun i => !b.contains i
def disj (a b : List Nat × List Nat) : Bool := disjL a.2 b.1 && disjL b.2 a.1
def feet (G : Cf) (F : FnEv) : List Opr → St → List (List Nat × List Nat)
 | [], _ => []
 | o :: r, st => foot G o st :: (match evOp G F o st with
  | some st' => feet G F r st'
  | none => [])
def sts (G : Cf) (F : FnEv) : List Opr → St → List St
 | [], st => [st]
 | o :: r, st => st :: (match evOp G F o st with
  | some st' => sts G F r st'
  | none => [])
structure Pin where
 ix : Nat
 id : Nat
 o : Nat
 va : Nat
 vb : Nat
def ptrIs (va vb : Nat) : AV → Bool
 | .ptr a b => a == va && b == vb
 | _ => false
def pinAt (p : Pin) (h : Heap) : Bool := match getO h p.id with
 | some (.var c) => ptrIs p.va p.vb (c.getD p.o .undef)
 | _ => false
def pinLd (G : Cf) (p : Pin) (o : Opr) (st : St) : Bool := match o with
 | ⟨_, .load false 1 x, none, []⟩ => ptrIs p.id p.o (rho G st.t x)
 | _ => false
def pinLdL (G : Cf) (p : Pin) : Nat → List Opr → List St → Bool
 | 0, o :: _, s :: _ => pinLd G p o s
 | k + 1, _ :: os, _ :: ss => pinLdL G p k os ss
 | _, _, _ => false
def pinOf : List (Nat × Nat) → Option (Pin × List (Nat × Nat))
 | m :: a :: v :: ps => if m.1 = 1000000 ∧ m.2 ≤ m.1 ∧ 1000000 ≤ a.1 ∧ a.2 ≤ a.1 ∧ 1000000 ≤ v.1 ∧ v.2 ≤ v.1 then some (⟨m.2, a.1 - 1000000, a.2, v.1 - 1000000, v.2⟩, ps) else none
 | _ => none
def okPr (G : Cf) (pairs : List (Nat × Nat)) (ops : List Opr) (fs : List (List Nat × List Nat)) (ss : List St) : Bool := match pinOf pairs with
 | some (p, ps) => (ss.all fun s => pinAt p s.h) && (pinLdL G p p.ix ops ss && ps.all fun q => q.2 == p.ix || disj (fs.getD q.1 ([], [])) (fs.getD q.2 ([], [])))
 | none => pairs.all fun p => disj (fs.getD p.1 ([], [])) (fs.getD p.2 ([], []))
def okPairs (G : Cf) (F : FnEv) (pairs : List (Nat × Nat)) (ops : List Opr) (st : St) : Bool := okPr G pairs ops (feet G F ops st) (sts G F ops st)
def keepT : List Bool → List AV → List AV
 | true :: k, v :: r => v :: keepT k r
 | false :: k, _ :: r => .undef :: keepT k r
 | _, r => r
def prune (ns : Nat) (ids : List Nat) (h : Heap) : Heap := h.mapIdx fun i o => if i < ns && !ids.contains i then none else o
def clean (ns : Nat) (ks : List Bool) (st : St) : St :=
 let y := decide (st.t.length < ks.length)
 let t := if y then keepT ks st.t else ageL true (keepT ks st.t)
 let h := if y then st.h else st.h.map (Option.map (Obj.age true))
 let roots := refsL t ++ List.range' ns (h.length - ns)
 let ids := reach h roots
 if closed h roots ids then ⟨t, prune ns ids h⟩ else ⟨t, h⟩
def loopEnd (ns : Nat) (ks : List Bool) (r : Option (Ex × St)) : Option (Ex × St) := match r with
 | some (.normal, st) => some (.normal, clean ns ks st)
 | r => r
def loopN (n : Nat) (step : St → Option (Ex × St)) (st : St) : Option (Ex × St) :=
 match n with
 | 0 => none
 | n + 1 => match step st with
  | some (.normal, st') => loopN n step st'
  | r => r
def evIR (G : Cf) (L : (St → Option (Ex × St)) → St → Option (Ex × St)) (F : FnEv) (ns : Nat) : IR → St → Option (Ex × St)
 | .skip, st => some (.normal, st)
 | .reg pairs ops, st => if okPairs G F pairs ops st then (match evOps G F ops st with
  | some st' => some (.normal, st')
  | none => none) else none
 | .seq a b, st => match evIR G L F ns a st with
  | some (.normal, st') => evIR G L F ns b st'
  | r => r
 | .cond c a b, st => match rho G st.t c with
  | .s (.bool true) => evIR G L F ns a st
  | .s (.bool false) => evIR G L F ns b st
  | _ => none
 | .block id k b, st => match evIR G L F ns b st with
  | some (.exit i, st') => if i = id then some (.normal, st') else some (.exit i, st')
  | some (.normal, st') => some (.normal, clean ns k st')
  | r => r
 | .loop k b, st => L (fun st => loopEnd ns k (evIR G L F ns b st)) (clean ns k st)
 | .exit i k, st => some (.exit i, clean ns k st)
 | .ret k, st => some (.ret, clean ns k st)
def resOf (st : St) : List Res → Option (List AV)
 | [] => some []
 | .tmp i :: r => match resOf st r with
  | some l => some (st.t.getD i .undef :: l)
  | none => none
 | .cell i ag sz :: r => match evR ⟨fun _ => [], true, noX, noBig⟩ st.t st.h (.load ag sz (.t i)), resOf st r with
  | some v, some l => some (v :: l)
  | _, _ => none
def frzC (h : Heap) (a : AV) : Option (AV × Heap) := match frz h a with
 | some (a', h') => some (a'.canon, h')
 | none => none
def frzRes : List Bool → List AV → Heap → Option (List AV × Heap)
 | k, a :: l, h => match (if k.headD false then some (a, h) else frzC h a) with
  | some (a', h1) => match frzRes k.tail l h1 with
   | some (l', h2) => some (a' :: l', h2)
   | none => none
  | none => none
 | _, [], h => some ([], h)
def AV.yng : AV → AV
 | .nilsl => .sl false []
 | .esl => .sl false []
 | .sl _ [] => .sl false []
 | a => a
def finish (fn : Fn) (k : Nat) (st : St) : Option (List AV × List Obj) :=
 match resOf st fn.res with
 | some rs0 => match frzRes fn.keep rs0 st.h with
  | some (rs1, h) =>
   let rs := if fn.young then rs1.map AV.yng else ageL true rs1
   let ins := List.range' fn.ns k
   let roots := refsL rs ++ ins
   let names := ins ++ (reach h roots).filter (· < fn.ns)
   if closed h roots names then
    match getAll h names with
    | some os =>
     let r := fun i => names.idxOf i
     some (renL r rs, os.map fun o => if fn.young then o.ren r else (o.ren r).age true)
    | none => none
   else none
  | none => none
 | none => none
def start (fn : Fn) (args : List AV) (ins : List Obj) : St :=
 ⟨renL (· + fn.ns) args ++ List.replicate (fn.nt - args.length) (.s undef), List.replicate fn.ns none ++ ins.map fun o => some (o.ren (· + fn.ns))⟩
def cntT : List Bool → Nat
 | [] => 0
 | true :: k => cntT k + 1
 | false :: k => cntT k
def padR (n : Nat) : Option (List AV × List Obj) → Option (List AV × List Obj)
 | some (rs, os) => some (rs, os ++ List.replicate (n - os.length) .dead)
 | none => none
def evFn1 (G : Cf) (L : (St → Option (Ex × St)) → St → Option (Ex × St)) (F : FnEv) (fn : Fn) (args : List AV) (ins : List Obj) : Option (List AV × List Obj) :=
 if args.length = fn.na then (match evIR G L F fn.ns fn.body (start fn args ins) with
  | some (.normal, st) => padR (ins.length + cntT fn.keep) (finish fn ins.length st)
  | some (.ret, st) => padR (ins.length + cntT fn.keep) (finish fn ins.length st)
  | _ => none) else none
def eqE : List (List C) → List (List C) → Bool
 | [], [] => true
 | [.sc (.int .u8 a)] :: l, [.sc (.int .u8 b)] :: m => decide (a = b) && eqE l m
 | _, _ => false
def eqA1 : AV → AV → Bool
 | .sl true l, .sl true m => eqE l m
 | .sl false l, .sl false m => eqE l m
 | .s (.bool a), .s (.bool b) => decide (a = b)
 | _, _ => false
def eqA1s : List AV → List AV → Bool
 | [], [] => true
 | a :: l, b :: m => eqA1 a b && eqA1s l m
 | _, _ => false
def eqA : AV → AV → Bool
 | .agg l, .agg m => eqA1s l m
 | a, b => eqA1 a b
def eqAs : List AV → List AV → Bool
 | [], [] => true
 | a :: l, b :: m => eqA a b && eqAs l m
 | _, _ => false
def both (a b : Option (List AV × List Obj)) : Option (List AV × List Obj) := match a, b with
 | some (rs, []), some (us, []) => if eqAs rs us then some (rs, []) else none
 | _, _ => none
def evFnC (G : Cf) (L : (St → Option (Ex × St)) → St → Option (Ex × St)) (F : FnEv) (fn : Fn) (args : List AV) (ins : List Obj) : Option (List AV × List Obj) :=
 if fn.nilq then (match args with
  | [.sl _ []] => both (evFn1 G L F fn [.nilsl] ins) (evFn1 G L F fn [.esl] ins)
  | args => evFn1 G L F fn args ins) else evFn1 G L F fn args ins
def evFn (tab : Nat → Option Fn) (G : Cf) (L : (St → Option (Ex × St)) → St → Option (Ex × St)) (F : FnEv) : FnEv := fun f args ins =>
 match tab f with
 | some fn => evFnC G L F fn (canonA fn.raw args) ins
 | none => G.X f args ins
def evN (tab : Nat → Option Fn) (G : Cf) : Nat → FnEv
 | 0 => fun _ _ _ => none
 | n + 1 => evFn tab G (fun s st => loopN n s st) (evN tab G n)
end Go.Ev
set_option linter.unusedSimpArgs false
set_option linter.unusedVariables false
namespace Go.Ev
inductive Rep (w : World) (S : Nat → Nat → Prop) : C → Value → Prop
 | sc (v : Value) (h : v.oneCell' = true) : Rep w S (.sc v) v
 | nil (base : Option Addr) (cap : Nat) (h0 : base = none → cap = 0) : Rep w S (.sl []) (.slice base 0 cap)
 | sl (l : List (List C)) (sz b o cap : Nat) (vals : Nat → Value) (hne : l ≠ []) (hsz : ∀ e ∈ l, e.length = sz) (hcap : l.length ≤ cap)
   (hc : ∀ j, j < l.length * sz → S b (o + j) ∧ w.cell? ⟨b, o + j, none⟩ = some (vals j))
   (hr : ∀ (i k : Nat) (e : List C) (c : C), l[i]? = some e → e[k]? = some c → Rep w S c (vals (i * sz + k))) :
   Rep w S (.sl l) (.slice (some ⟨b, o, none⟩) l.length cap)
theorem Rep.mono {w w' : World} {S S' : Nat → Nat → Prop} (h : ∀ b o, S b o → S' b o ∧ w'.cell? ⟨b, o, none⟩ = w.cell? ⟨b, o, none⟩) {c : C} {v : Value} (hr : Rep w S c v) : Rep w' S' c v := by
 induction hr with
 | sc v hv => exact .sc v hv
 | nil base cap h0 => exact .nil base cap h0
 | sl l sz b o cap vals hne hsz hcap hc _ ih =>
  exact .sl l sz b o cap vals hne hsz hcap (fun j hj => ⟨(h _ _ (hc j hj).1).1, (h _ _ (hc j hj).1).2.trans (hc j hj).2⟩) ih
structure Cx where
 w : World
 S : Nat → Nat → Prop
 φ : Nat → Nat
 κ : Nat → Nat
 B0 : Nat
 Ω : Nat → Nat → Prop
 bg : BigRel
def Cx.sh (x : Cx) (old : Bool) (b o : Nat) : Prop := x.S b o ∧ (old = true ∨ x.B0 ≤ b)
structure Ext (x x' : Cx) : Prop where
 b0 : x'.B0 = x.B0
 bg : x'.bg = x.bg
 cells : ∀ b o, x.S b o → x'.S b o ∧ x'.w.cell? ⟨b, o, none⟩ = x.w.cell? ⟨b, o, none⟩
theorem Ext.refl (x : Cx) : Ext x x := ⟨rfl, rfl, fun _ _ h => ⟨h, rfl⟩⟩
theorem Ext.trans {x y z : Cx} (h : Ext x y) (h' : Ext y z) : Ext x z :=
 ⟨h'.b0.trans h.b0, h'.bg.trans h.bg, fun _ _ hs => ⟨(h'.cells _ _ (h.cells _ _ hs).1).1, (h'.cells _ _ (h.cells _ _ hs).1).2.trans (h.cells _ _ hs).2⟩⟩
theorem Ext.sh {x x' : Cx} (h : Ext x x') (old : Bool) : ∀ b o, x.sh old b o → x'.sh old b o ∧ x'.w.cell? ⟨b, o, none⟩ = x.w.cell? ⟨b, o, none⟩ :=
 fun _ _ hs => ⟨⟨(h.cells _ _ hs.1).1, by rw [h.b0]; exact hs.2⟩, (h.cells _ _ hs.1).2⟩
def Value.isSlice : Value → Prop
 | .slice (some _) _ _ => True
 | _ => False
def Value.isMap : Value → Prop
 | .map (some _) => True
 | _ => False
def Value.isPtr : Value → Prop
 | .pointer (some _) => True
 | _ => False
inductive RelV (x : Cx) (h : Heap) : AV → Value → Prop
 | undef (v : Value) : RelV x h .undef v
 | s (v : Value) : RelV x h (.s v) v
 | sl (old : Bool) (l : List (List C)) (v : Value) (hr : Rep x.w (x.sh old) (.sl l) v) : RelV x h (.sl old l) v
 | nilsl : RelV x h .nilsl (.slice none 0 0)
 | esl (a : Addr) (cap : Nat) : RelV x h .esl (.slice (some a) 0 cap)
 | row (id n : Nat) (v : Value) (hv : Value.isSlice v) (hle : ∀ e s o f l, getO h id = some (.row e s o f l) → n ≤ l.length) (hr : ∀ e s o f l, getO h id = some (.row e s o f l) → l.length = n → v = .slice (some ⟨x.φ id, 0, none⟩) n (x.κ id)) : RelV x h (.row id n) v
 | ptr (id off : Nat) (v : Value) (hv : Value.isPtr v) (hr : ∀ cs, getO h id = some (.var cs) → v = .pointer (some ⟨x.φ id, off, none⟩)) (hb : ∀ d, getO h id = some (.big d) → v = .pointer (some ⟨x.φ id, off, none⟩)) : RelV x h (.ptr id off) v
 | mp (id : Nat) (v : Value) (hv : Value.isMap v) (hr : ∀ d, getO h id = some (.big d) → v = .map (some (x.φ id))) : RelV x h (.mp id) v
 | eptr (id n i k : Nat) (v : Value) (hv : Value.isPtr v) (hle : ∀ e s o f l, getO h id = some (.row e s o f l) → n ≤ l.length) (hr : ∀ e s o f l, getO h id = some (.row e s o f l) → l.length = n → v = .pointer (some ⟨x.φ id, i * s + k, none⟩)) : RelV x h (.eptr id n i k) v
 | daddr (old : Bool) (l : List C) (b o : Nat) (vals : Nat → Value) (hc : ∀ j, j < l.length → x.sh old b (o + j) ∧ x.w.cell? ⟨b, o + j, none⟩ = some (vals j))
   (hr : ∀ (j : Nat) (c : C), l[j]? = some c → Rep x.w (x.sh old) c (vals j)) : RelV x h (.daddr old l) (.pointer (some ⟨b, o, none⟩))
 | agg (l : List AV) (vs : List Value) (hl : l.length = vs.length) (hr : ∀ (i : Nat) (a : AV) (v : Value), l[i]? = some a → vs[i]? = some v → RelV x h a v) : RelV x h (.agg l) (.agg vs.toArray)
 | tup (l : List AV) (vs : List Value) (hl : l.length = vs.length) (hr : ∀ (i : Nat) (a : AV) (v : Value), l[i]? = some a → vs[i]? = some v → RelV x h a v) : RelV x h (.tup l) (.tuple vs.toArray)
 | ifc (t : Nat) (a : AV) (v : Value) (hr : RelV x h a v) : RelV x h (.ifc t a) (.iface t v)
 | clos (f : Nat) (l : List AV) (vs : List Value) (hl : l.length = vs.length) (hr : ∀ (i : Nat) (a : AV) (v : Value), l[i]? = some a → vs[i]? = some v → RelV x h a v) : RelV x h (.clos f l) (.func (.func f) #[] vs.toArray)
structure Evo (x : Cx) (h : Heap) (x' : Cx) (h' : Heap) (id : Nat) : Prop where
 var : ∀ cs', getO h' id = some (.var cs') → (∃ cs, getO h id = some (.var cs)) ∧ x'.φ id = x.φ id
 row : ∀ e s o f l', getO h' id = some (.row e s o f l') → ∃ o' f' l, getO h id = some (.row e s o' f' l) ∧ l.length ≤ l'.length ∧ (l.length = l'.length → x'.φ id = x.φ id ∧ x'.κ id = x.κ id)
 big : ∀ d', getO h' id = some (.big d') → (∃ d, getO h id = some (.big d)) ∧ x'.φ id = x.φ id
theorem Evo.refl (x : Cx) (h : Heap) (id : Nat) : Evo x h x h id :=
 ⟨fun cs hc => ⟨⟨cs, hc⟩, rfl⟩, fun _ _ o f l hl => ⟨o, f, l, hl, Nat.le_refl _, fun _ => ⟨rfl, rfl⟩⟩, fun d hd => ⟨⟨d, hd⟩, rfl⟩⟩
theorem Evo.trans {x y z : Cx} {h h1 h2 : Heap} {id : Nat} (a : Evo x h y h1 id) (b : Evo y h1 z h2 id) : Evo x h z h2 id := by
 refine ⟨fun cs hc => ?_, fun e s o f l hl => ?_, fun d hd => ?_⟩
 ·obtain ⟨⟨c1, h1⟩, e1⟩ := b.var cs hc
  obtain ⟨h0, e0⟩ := a.var c1 h1
  exact ⟨h0, e1.trans e0⟩
 rotate_left
 ·obtain ⟨⟨c1, h1⟩, e1⟩ := b.big d hd
  obtain ⟨h0, e0⟩ := a.big c1 h1
  exact ⟨h0, e1.trans e0⟩
 ·obtain ⟨o1, f1, l1, g1, le1, k1⟩ := b.row e s o f l hl
  obtain ⟨o0, f0, l0, g0, le0, k0⟩ := a.row e s o1 f1 l1 g1
  refine ⟨o0, f0, l0, g0, Nat.le_trans le0 le1, fun he => ?_⟩
  have h1 := k1 (by omega)
  have h0 := k0 (by omega)
  exact ⟨h1.1.trans h0.1, h1.2.trans h0.2⟩
theorem Evo.same {x x' : Cx} {h h' : Heap} {id : Nat} (hg : getO h' id = getO h id) (hp : x'.φ id = x.φ id) (hk : x'.κ id = x.κ id) : Evo x h x' h' id :=
 ⟨fun cs hc => ⟨⟨cs, hg ▸ hc⟩, hp⟩, fun _ _ o f l hl => ⟨o, f, l, hg ▸ hl, Nat.le_refl _, fun _ => ⟨hp, hk⟩⟩, fun d hd => ⟨⟨d, hg ▸ hd⟩, hp⟩⟩
theorem mem_refsL {l : List AV} {i : Nat} {a : AV} (h : l[i]? = some a) {id : Nat} (hi : id ∈ a.refs) : id ∈ refsL l := by
 induction l generalizing i with
 | nil => simp at h
 | cons b r ih =>
  cases i with
  | zero =>
   simp only [List.getElem?_cons_zero, Option.some.injEq] at h
   subst h
   simp only [refsL, List.mem_append]
   exact .inl hi
  | succ i =>
   simp only [List.getElem?_cons_succ] at h
   simp only [refsL, List.mem_append]
   exact .inr (ih h)
theorem mem_refsL_iff {l : List AV} {id : Nat} : id ∈ refsL l ↔ ∃ (i : Nat) (a : AV), l[i]? = some a ∧ id ∈ a.refs := by
 constructor
 ·induction l with
  | nil => simp [refsL]
  | cons b r ih =>
   simp only [refsL, List.mem_append]
   rintro (h | h)
   ·exact ⟨0, b, rfl, h⟩
   ·obtain ⟨i, a, h1, h2⟩ := ih h
    exact ⟨i + 1, a, h1, h2⟩
 ·rintro ⟨i, a, h1, h2⟩
  exact mem_refsL h1 h2
theorem RelV.mono {x x' : Cx} {h h' : Heap} (he : Ext x x') {a : AV} {v : Value} (hr : RelV x h a v) (hev : ∀ id ∈ a.refs, Evo x h x' h' id) : RelV x' h' a v := by
 induction hr with
 | undef v => exact .undef v
 | s v => exact .s v
 | sl old l v hr => exact .sl old l v (hr.mono (he.sh old))
 | nilsl => exact .nilsl
 | esl a cap => exact .esl a cap
 | row id n v hv hle hr =>
  refine .row id n v hv (fun e s o f l hg => ?_) fun e s o f l hg hl => ?_
  ·obtain ⟨o', f', l0, g0, le0, _⟩ := (hev id (by simp [AV.refs])).row e s o f l hg
   exact Nat.le_trans (hle _ _ _ _ _ g0) le0
  ·obtain ⟨o', f', l0, g0, le0, k0⟩ := (hev id (by simp [AV.refs])).row e s o f l hg
   have hn : l0.length = l.length := by have := hle _ _ _ _ _ g0; omega
   have hk := k0 hn
   rw [hk.1, hk.2]
   exact hr e s o' f' l0 g0 (hn.trans hl)
 | mp id v hv hb =>
  refine .mp id v hv fun d hg => ?_
  obtain ⟨⟨c0, g0⟩, hp⟩ := (hev id (by simp [AV.refs])).big d hg
  rw [hp]
  exact hb c0 g0
 | ptr id off v hv hr hb =>
  refine .ptr id off v hv (fun cs hg => ?_) fun d hg => ?_
  ·obtain ⟨⟨c0, g0⟩, hp⟩ := (hev id (by simp [AV.refs])).var cs hg
   rw [hp]
   exact hr c0 g0
  ·obtain ⟨⟨c0, g0⟩, hp⟩ := (hev id (by simp [AV.refs])).big d hg
   rw [hp]
   exact hb c0 g0
 | eptr id n i k v hv hle hr =>
  refine .eptr id n i k v hv (fun e s o f l hg => ?_) fun e s o f l hg hl => ?_
  ·obtain ⟨o', f', l0, g0, le0, _⟩ := (hev id (by simp [AV.refs])).row e s o f l hg
   exact Nat.le_trans (hle _ _ _ _ _ g0) le0
  ·obtain ⟨o', f', l0, g0, le0, k0⟩ := (hev id (by simp [AV.refs])).row e s o f l hg
   have hn : l0.length = l.length := by have := hle _ _ _ _ _ g0; omega
   rw [(k0 hn).1]
   exact hr e s o' f' l0 g0 (hn.trans hl)
 | daddr old l b o vals hc hr =>
  exact .daddr old l b o vals (fun j hj => ⟨(he.sh old _ _ (hc j hj).1).1, (he.sh old _ _ (hc j hj).1).2.trans (hc j hj).2⟩) fun j c hj => (hr j c hj).mono (he.sh old)
 | agg l vs hl _ ih => exact .agg l vs hl fun i a v h1 h2 => ih i a v h1 h2 fun id hid => hev id (by simp only [AV.refs]; exact mem_refsL h1 hid)
 | tup l vs hl _ ih => exact .tup l vs hl fun i a v h1 h2 => ih i a v h1 h2 fun id hid => hev id (by simp only [AV.refs]; exact mem_refsL h1 hid)
 | ifc t a v _ ih => exact .ifc t a v (ih fun id hid => hev id (by simpa [AV.refs] using hid))
 | clos f l vs hl _ ih => exact .clos f l vs hl fun i a v h1 h2 => ih i a v h1 h2 fun id hid => hev id (by simp only [AV.refs]; exact mem_refsL h1 hid)
def Obj.mut : Obj → Prop
 | .var _ => True
 | .big _ => True
 | .row _ _ _ fr _ => fr = false
 | .dead => False
def Obj.isRow : Obj → Prop
 | .row _ _ _ _ _ => True
 | _ => False
def ObjRel (x : Cx) (h : Heap) (id : Nat) : Obj → Prop
 | .dead => True
 | .big d => x.bg.rel d x.w x.S (x.φ id) (x.Ω id)
 | .var cells => ∃ arr e, x.w.heap[x.φ id]? = some (.cells arr e (0, 0)) ∧ arr.size = cells.length ∧
   ∀ (i : Nat) (a : AV), cells[i]? = some a → ∃ v, arr[i]? = some v ∧ v.oneCell' = true ∧ RelV x h a v
 | .row ety sz old fr l => ∃ arr, x.w.heap[x.φ id]? = some (.cells arr ety (0, 0)) ∧ arr.size = x.κ id * sz ∧ l.length ≤ x.κ id ∧ x.κ id ≤ maxLen ∧ 0 < sz ∧
   (∀ e ∈ l, e.length = sz) ∧ (∀ v ∈ arr, v.oneCell' = true) ∧
   (∀ (i k : Nat) (e : List C) (c : C), l[i]? = some e → e[k]? = some c → ∃ v, arr[i * sz + k]? = some v ∧ Rep x.w (x.sh old) c v) ∧
   (fr = true → ∀ j, j < l.length * sz → x.sh old (x.φ id) j) ∧ (old = false → x.B0 ≤ x.φ id)
structure Inv (G : Cf) (x : Cx) (h : Heap) : Prop where
 bgo : x.bg = G.B
 obj : ∀ id o, getO h id = some o → ObjRel x h id o
 inj : ∀ i j oi oj, getO h i = some oi → getO h j = some oj → oi ≠ .dead → oj ≠ .dead → x.φ i = x.φ j → i = j
 own : ∀ id o, getO h id = some o → o.mut → ∀ j, ¬ x.S (x.φ id) j
 sh : ∀ b o, x.S b o → b < x.w.heap.size
 live : ∀ id o, getO h id = some o → ∀ j ∈ o.refs, (getO h j).isSome
 glob : ∀ (g j : Nat) (c : C), (G.G g)[j]? = some c → x.S g j ∧ ∃ v, x.w.cell? ⟨g, j, none⟩ = some v ∧ Rep x.w x.S c v
 big : ∀ id d, getO h id = some (.big d) → ∀ b, x.Ω id b → b < x.w.heap.size ∧ (∀ i o, getO h i = some o → o ≠ .dead → x.φ i ≠ b) ∧ ∀ i d', getO h i = some (.big d') → x.Ω i b → i = id
def NF (N : Nat) (w : World) : Prop := ∀ b o, N ≤ b → (w.cell? ⟨b, o, none⟩).isSome → w.frozen? ⟨b, o, none⟩ = false
theorem NF.heap {N : Nat} {w w' : World} (hh : w'.heap = w.heap) (h : NF N w) : NF N w' := fun b o hb hc => by
 simp only [World.cell?, World.frozen?, hh] at hc ⊢
 exact h b o hb hc
theorem NF.cells {N : Nat} {w w' : World} {g lo hi : Nat} {arr : Array Value} {e : TypeId} (hn : w'.heap[g]? = some (.cells arr e (lo, hi))) (hf : ∀ o, o < arr.size → ¬ (lo ≤ o ∧ o < hi)) (ho : ∀ b, b ≠ g → w'.heap[b]? = w.heap[b]? ∨ w'.heap[b]? = none) (h : NF N w) : NF N w' := fun b o hb hc => by
 by_cases he : b = g
 ·subst he
  simp only [World.cell?, World.frozen?, hn] at hc ⊢
  simp only [Option.isSome_iff_exists] at hc
  obtain ⟨v, hv⟩ := hc
  have hlt : o < arr.size := by
   rcases Nat.lt_or_ge o arr.size with h1 | h1
   ·exact h1
   ·simp [Array.getElem?_eq_none h1] at hv
  have := hf o hlt
  simp only [Bool.and_eq_false_iff, decide_eq_false_iff_not]
  omega
 ·rcases ho b he with h1 | h1
  ·simp only [World.cell?, World.frozen?, h1] at hc ⊢
   exact h b o hb hc
  ·simp [World.cell?, h1] at hc
structure Step (D : Nat → Prop) (x : Cx) (h : Heap) (x' : Cx) (h' : Heap) : Prop where
 ext : Ext x x'
 size : x.w.heap.size ≤ x'.w.heap.size
 evo : ∀ id, D id → (getO h id).isSome → Evo x h x' h' id ∧ (getO h' id).isSome
 frame : ∀ b, b < x.w.heap.size → (∀ id o, getO h id = some o → o.mut → x.φ id ≠ b) → (∀ id d, getO h id = some (.big d) → ¬ x.Ω id b) → x'.w.heap[b]? = x.w.heap[b]?
 sgrow : ∀ b o, x'.S b o → x.S b o ∨ (∃ id ob, getO h id = some ob ∧ ob.isRow ∧ ob.mut ∧ x.φ id = b) ∨ x.w.heap.size ≤ b ∨ ∃ id d, getO h id = some (.big d) ∧ x.Ω id b
 bfresh : ∀ id d b, getO h' id = some (.big d) → x'.Ω id b → (∃ i0 d0, getO h i0 = some (.big d0) ∧ x.Ω i0 b) ∨ x.w.heap.size ≤ b ∨ ∃ id ob, getO h id = some ob ∧ ob.isRow ∧ ob.mut ∧ x.φ id = b
 fresh : ∀ id ob, getO h' id = some ob → ob.mut → (∃ id0 ob0, getO h id0 = some ob0 ∧ ob0.mut ∧ x'.φ id = x.φ id0) ∨ x.w.heap.size ≤ x'.φ id
 frow : ∀ id ob, getO h' id = some ob → ob.isRow → (∃ id0 ob0, getO h id0 = some ob0 ∧ ob0.isRow ∧ (ob.mut → ob0.mut) ∧ x'.φ id = x.φ id0) ∨ x.w.heap.size ≤ x'.φ id
 os : x'.w.os = x.w.os
 tape : x'.w.tape = x.w.tape
 output : x'.w.output = x.w.output
 nf : ∀ N, NF N x.w → NF N x'.w
theorem Step.refl (D : Nat → Prop) (x : Cx) (h : Heap) : Step D x h x h where
 ext := Ext.refl x
 size := Nat.le_refl _
 evo := fun id _ hs => ⟨Evo.refl x h id, hs⟩
 frame := fun _ _ _ _ => rfl
 sgrow := fun _ _ hs => .inl hs
 bfresh := fun id d b hg hb => .inl ⟨id, d, hg, hb⟩
 fresh := fun id ob hg hm => .inl ⟨id, ob, hg, hm, rfl⟩
 frow := fun id ob hg hm => .inl ⟨id, ob, hg, hm, fun h => h, rfl⟩
 os := rfl
 tape := rfl
 output := rfl
 nf := fun _ h => h
theorem Step.trans {D : Nat → Prop} {x y z : Cx} {h h1 h2 : Heap} (a : Step D x h y h1) (b : Step D y h1 z h2) : Step D x h z h2 where
 ext := a.ext.trans b.ext
 size := Nat.le_trans a.size b.size
 evo := fun id hd hs => by
  obtain ⟨e1, s1⟩ := a.evo id hd hs
  obtain ⟨e2, s2⟩ := b.evo id hd s1
  exact ⟨e1.trans e2, s2⟩
 frame := fun k hk hm hbig => by
  rw [← a.frame k hk hm hbig]
  refine b.frame k (Nat.lt_of_lt_of_le hk a.size) (fun id ob hg hmut hp => ?_) fun id d hg hb => ?_
  ·rcases a.fresh id ob hg hmut with ⟨i0, o0, g0, m0, e0⟩ | hge
   ·exact hm i0 o0 g0 m0 (e0 ▸ hp)
   ·omega
  ·rcases a.bfresh id d k hg hb with ⟨i0, d0, g0, h0⟩ | hge | ⟨i0, o0, g0, _, m0, e0⟩
   ·exact hbig i0 d0 g0 h0
   ·omega
   ·exact hm i0 o0 g0 m0 e0
 sgrow := fun k o hs => by
  rcases b.sgrow k o hs with h1' | ⟨id, ob, hg, hrow, hmut, hp⟩ | hge | ⟨id, d, hg, hb⟩
  ·exact a.sgrow k o h1'
  ·rcases a.frow id ob hg hrow with ⟨i0, o0, g0, r0, m0, e0⟩ | hge
   ·exact .inr (.inl ⟨i0, o0, g0, r0, m0 hmut, e0 ▸ hp⟩)
   ·exact .inr (.inr (.inl (hp ▸ hge)))
  ·exact .inr (.inr (.inl (Nat.le_trans a.size hge)))
  ·rcases a.bfresh id d k hg hb with h0 | hge | h0
   ·exact .inr (.inr (.inr h0))
   ·exact .inr (.inr (.inl hge))
   ·exact .inr (.inl h0)
 bfresh := fun id d k hg hb => by
  rcases b.bfresh id d k hg hb with ⟨i1, d1, g1, h1⟩ | hge | ⟨i1, o1, g1, r1, m1, e1⟩
  ·exact a.bfresh i1 d1 k g1 h1
  ·exact .inr (.inl (Nat.le_trans a.size hge))
  ·rcases a.frow i1 o1 g1 r1 with ⟨i0, o0, g0, r0, m0, e0⟩ | hge
   ·exact .inr (.inr ⟨i0, o0, g0, r0, m0 m1, e0 ▸ e1⟩)
   ·exact .inr (.inl (e1 ▸ hge))
 fresh := fun id ob hg hmut => by
  rcases b.fresh id ob hg hmut with ⟨i1, o1, g1, m1, e1⟩ | hge
  ·rcases a.fresh i1 o1 g1 m1 with ⟨i0, o0, g0, m0, e0⟩ | hge
   ·exact .inl ⟨i0, o0, g0, m0, e1.trans e0⟩
   ·exact .inr (e1 ▸ hge)
  ·exact .inr (Nat.le_trans a.size hge)
 frow := fun id ob hg hrow => by
  rcases b.frow id ob hg hrow with ⟨i1, o1, g1, r1, m1, e1⟩ | hge
  ·rcases a.frow i1 o1 g1 r1 with ⟨i0, o0, g0, r0, m0, e0⟩ | hge
   ·exact .inl ⟨i0, o0, g0, r0, fun h => m0 (m1 h), e1.trans e0⟩
   ·exact .inr (e1 ▸ hge)
  ·exact .inr (Nat.le_trans a.size hge)
 os := b.os.trans a.os
 tape := b.tape.trans a.tape
 output := b.output.trans a.output
 nf := fun N h => b.nf N (a.nf N h)
theorem Step.weaken {D D' : Nat → Prop} {x x' : Cx} {h h' : Heap} (hs : Step D x h x' h') (hd : ∀ id, D' id → D id) : Step D' x h x' h' :=
 { hs with evo := fun id hd' => hs.evo id (hd id hd') }
def Live (h : Heap) (l : List AV) : Prop := ∀ id ∈ refsL l, (getO h id).isSome
theorem RelV.step {D : Nat → Prop} {x x' : Cx} {h h' : Heap} (hs : Step D x h x' h') {a : AV} {v : Value} (hr : RelV x h a v) (hl : ∀ id ∈ a.refs, D id ∧ (getO h id).isSome) : RelV x' h' a v :=
 hr.mono hs.ext fun id hid => (hs.evo id (hl id hid).1 (hl id hid).2).1
structure RelS (G : Cf) (x : Cx) (st : St) (a : Act) : Prop where
 inv : Inv G x st.h
 b0 : x.B0 ≤ x.w.heap.size
 size : a.tmps.size = st.t.length
 vals : ∀ i, i < st.t.length → RelV x st.h (st.t.getD i .undef) (a.tmps.getD i undef)
 live : Live st.h st.t
theorem getD_mem {l : List AV} {i : Nat} {id : Nat} (h : id ∈ (l.getD i .undef).refs) : id ∈ refsL l := by
 by_cases hi : i < l.length
 ·have : l[i]? = some (l.getD i .undef) := by simp [List.getD, List.getElem?_eq_getElem hi]
  exact mem_refsL this h
 ·have : l.getD i .undef = .undef := by simp [List.getD, List.getElem?_eq_none (Nat.le_of_not_lt hi)]
  rw [this] at h
  simp [AV.refs] at h
theorem RelS.val {G : Cf} {x : Cx} {st : St} {a : Act} (h : RelS G x st a) (i : Nat) : RelV x st.h (st.t.getD i .undef) (a.tmps.getD i undef) := by
 by_cases hi : i < st.t.length
 ·exact h.vals i hi
 ·have : st.t.getD i .undef = .undef := by simp [List.getD, List.getElem?_eq_none (Nat.le_of_not_lt hi)]
  rw [this]
  exact .undef _
end Go.Ev
set_option linter.unusedSimpArgs false
set_option linter.unusedVariables false
namespace Go.Ev
theorem getO_set {h : Heap} {s : Nat} {o : Option Obj} (hs : s < h.length) (id : Nat) : getO (h.set s o) id = if id = s then o else getO h id := by
 unfold getO
 by_cases he : id = s
 ·subst he
  simp [List.getD, hs]
 ·rw [if_neg he]
  simp [List.getD, Ne.symm he]
theorem getO_lt {h : Heap} {id : Nat} (hs : (getO h id).isSome) : id < h.length := by
 rcases Nat.lt_or_ge id h.length with h1 | h1
 ·exact h1
 ·simp [getO, List.getD, List.getElem?_eq_none h1] at hs
theorem ObjRel.mono {x x' : Cx} {h h' : Heap} {id : Nat} {o : Obj} (hr : ObjRel x h id o) (he : Ext x x') (hb : x'.w.heap[x.φ id]? = x.w.heap[x.φ id]?) (hp : x'.φ id = x.φ id) (hk : x'.κ id = x.κ id)
  (hev : ∀ j ∈ o.refs, Evo x h x' h' j) (hbg : ∀ d, o = .big d → x'.Ω id = x.Ω id ∧ (∀ c, x.Ω id c → x'.w.heap[c]? = x.w.heap[c]?) ∧ ∀ c q, x.Ω id c → x'.S c q → x.S c q) : ObjRel x' h' id o := by
 cases o with
 | dead => trivial
 | big d =>
  obtain ⟨h1, h2, h3⟩ := hbg d rfl
  show x'.bg.rel d x'.w x'.S (x'.φ id) (x'.Ω id)
  rw [he.bg, hp, h1]
  exact x.bg.mono hr hb h2 he.cells h3
 | var cells =>
  obtain ⟨arr, e, h1, h2, h3⟩ := hr
  refine ⟨arr, e, by rw [hp, hb]; exact h1, h2, fun i a ha => ?_⟩
  obtain ⟨v, hv, h1v, hrv⟩ := h3 i a ha
  exact ⟨v, hv, h1v, hrv.mono he fun j hj => hev j (mem_refsL ha hj)⟩
 | row ety sz old fr l =>
  obtain ⟨arr, h1, h2, h3, h4, h5, h6, h7, h8, h9, h10⟩ := hr
  refine ⟨arr, by rw [hp, hb]; exact h1, by rw [hk]; exact h2, by rw [hk]; exact h3, by rw [hk]; exact h4, h5, h6, h7, fun i k e c hi hc => ?_, fun hf j hj => ?_, fun ho => by rw [he.b0, hp]; exact h10 ho⟩
  ·obtain ⟨v, hv, hrv⟩ := h8 i k e c hi hc
   exact ⟨v, hv, hrv.mono (he.sh old)⟩
  ·rw [hp]
   exact (he.sh old _ _ (h9 hf j hj)).1
theorem Inv.update {G : Cf} {x x' : Cx} {h h' : Heap} (hi : Inv G x h) (s : Nat) (hst : Step (fun _ => True) x h x' h') (hΩ : x'.Ω = x.Ω) (hbB : ∀ id d, getO h id = some (.big d) → ∀ c, x.Ω id c → x'.w.heap[c]? = x.w.heap[c]?) (hbS : ∀ id d, getO h id = some (.big d) → ∀ c q, x.Ω id c → x'.S c q → x.S c q)
  (hnb : ∀ o', getO h' s = some o' → (∀ d, o' ≠ .big d) ∧ (o' ≠ .dead → ∀ id d, getO h id = some (.big d) → ¬ x.Ω id (x'.φ s)))
  (hh : ∀ id, id ≠ s → getO h' id = getO h id)
  (hp : ∀ id, id ≠ s → x'.φ id = x.φ id) (hk : ∀ id, id ≠ s → x'.κ id = x.κ id)
  (hb : ∀ id o, id ≠ s → getO h id = some o → o ≠ .dead → x'.w.heap[x.φ id]? = x.w.heap[x.φ id]?)
  (hS : ∀ id o, id ≠ s → getO h id = some o → o.mut → ∀ j, ¬ x'.S (x.φ id) j)
  (hsh : ∀ b o, x'.S b o → b < x'.w.heap.size)
  (hn : ∀ o', getO h' s = some o' → ObjRel x' h' s o' ∧ (∀ j ∈ o'.refs, (getO h' j).isSome) ∧ (o'.mut → ∀ j, ¬ x'.S (x'.φ s) j) ∧
   (o' ≠ .dead → ∀ id o, id ≠ s → getO h id = some o → o ≠ .dead → x'.φ s ≠ x.φ id)) : Inv G x' h' where
 obj := fun id o hg => by
  by_cases he : id = s
  ·subst he; exact (hn o hg).1
  ·rw [hh id he] at hg
   by_cases hd : o = .dead
   ·subst hd; trivial
   ·exact (hi.obj id o hg).mono hst.ext (hb id o he hg hd) (hp id he) (hk id he) (fun j hj => (hst.evo j trivial (hi.live id o hg j hj)).1) fun d hd => by
     subst hd
     exact ⟨by rw [hΩ], hbB id d hg, hbS id d hg⟩
 inj := fun i j oi oj gi gj di dj hpp => by
  by_cases hi' : i = s
  ·by_cases hj' : j = s
   ·rw [hi', hj']
   ·exfalso
    rw [hi'] at gi hpp
    rw [hh j hj'] at gj
    rw [hp j hj'] at hpp
    exact (hn oi gi).2.2.2 di j oj hj' gj dj hpp
  ·rw [hh i hi'] at gi
   rw [hp i hi'] at hpp
   by_cases hj' : j = s
   ·exfalso
    rw [hj'] at gj hpp
    exact (hn oj gj).2.2.2 dj i oi hi' gi di hpp.symm
   ·rw [hh j hj'] at gj
    rw [hp j hj'] at hpp
    exact hi.inj i j oi oj gi gj di dj hpp
 own := fun id o hg hm j => by
  by_cases he : id = s
  ·subst he; exact (hn o hg).2.2.1 hm j
  ·rw [hh id he] at hg
   rw [hp id he]
   exact hS id o he hg hm j
 sh := hsh
 live := fun id o hg j hj => by
  by_cases he : id = s
  ·subst he; exact (hn o hg).2.1 j hj
  ·rw [hh id he] at hg
   exact (hst.evo j trivial (hi.live id o hg j hj)).2
 glob := fun g j c hg => by
  obtain ⟨h1, v, h2, h3⟩ := hi.glob g j c hg
  exact ⟨(hst.ext.cells _ _ h1).1, v, ((hst.ext.cells _ _ h1).2).trans h2, h3.mono fun b o hs => hst.ext.cells b o hs⟩
 bgo := hst.ext.bg.trans hi.bgo
 big := fun id d hg b hO => by
  have old : ∀ {i : Nat} {d : Big}, getO h' i = some (.big d) → i ≠ s ∧ getO h i = some (.big d) := fun {i d} hgi => by
   by_cases he : i = s
   ·subst he; exact absurd rfl ((hnb _ hgi).1 d)
   ·rw [hh i he] at hgi; exact ⟨he, hgi⟩
  obtain ⟨hne, hg0⟩ := old hg
  rw [hΩ] at hO
  obtain ⟨h1, h2, h3⟩ := hi.big id d hg0 b hO
  refine ⟨Nat.lt_of_lt_of_le h1 hst.size, fun i o hgi hd hpi => ?_, fun i d' hgi hOi => ?_⟩
  ·by_cases he : i = s
   ·subst he
    exact (hnb o hgi).2 hd id d hg0 (hpi ▸ hO)
   ·rw [hh i he] at hgi
    rw [hp i he] at hpi
    exact h2 i o hgi hd hpi
  ·rw [hΩ] at hOi
   exact h3 i d' (old hgi).2 hOi
theorem bfresh_set {x x' : Cx} {h : Heap} {id : Nat} {o : Obj} (hlt : id < h.length) (hΩ : x'.Ω = x.Ω) (hob : ∀ d, o ≠ .big d) : ∀ i d b, getO (h.set id (some o)) i = some (.big d) → x'.Ω i b → (∃ i0 d0, getO h i0 = some (.big d0) ∧ x.Ω i0 b) ∨ x.w.heap.size ≤ b ∨ ∃ id ob, getO h id = some ob ∧ ob.isRow ∧ ob.mut ∧ x.φ id = b := fun i d b hg hO => by
 by_cases hne : i = id
 ·rw [getO_set hlt, if_pos hne] at hg
  injection hg with hg
  exact absurd hg (hob d)
 ·rw [getO_set hlt, if_neg hne] at hg
  exact .inl ⟨i, d, hg, hΩ ▸ hO⟩
theorem Step.sameHeap {x : Cx} {h : Heap} {w' : World} (hh : w'.heap = x.w.heap) (ho : w'.os = x.w.os) (ht : w'.tape = x.w.tape) (hu : w'.output = x.w.output) :
  Step (fun _ => True) x h { x with w := w' } h where
 ext := ⟨rfl, rfl, fun b o hs => ⟨hs, by simp [World.cell?, hh]⟩⟩
 size := by simp [hh]
 evo := fun id _ hs => ⟨.same rfl rfl rfl, hs⟩
 frame := fun b _ _ _ => by simp [hh]
 bfresh := fun id d b hg hb => .inl ⟨id, d, hg, hb⟩
 sgrow := fun b o hs => .inl hs
 fresh := fun id ob hg hm => .inl ⟨id, ob, hg, hm, rfl⟩
 frow := fun id ob hg hm => .inl ⟨id, ob, hg, hm, fun h => h, rfl⟩
 os := ho
 tape := ht
 output := hu
 nf := fun _ h => h.heap hh
theorem Inv.sameHeap {G : Cf} {x : Cx} {h : Heap} (hi : Inv G x h) {w' : World} (hh : w'.heap = x.w.heap) (ho : w'.os = x.w.os) (ht : w'.tape = x.w.tape) (hu : w'.output = x.w.output) :
  Inv G { x with w := w' } h := by
 have hst := Step.sameHeap (h := h) hh ho ht hu
 exact {
  obj := fun id o hg => (hi.obj id o hg).mono hst.ext (by simp [hh]) rfl rfl (fun j hj => .same rfl rfl rfl) fun d _ => ⟨rfl, fun c _ => by simp [hh], fun _ _ _ h => h⟩
  bgo := hi.bgo
  big := fun id d hg b hO => by
   obtain ⟨h1, h2, h3⟩ := hi.big id d hg b hO
   exact ⟨by simpa [hh] using h1, h2, h3⟩
  inj := hi.inj
  own := hi.own
  sh := fun b o hs => by simpa [hh] using hi.sh b o hs
  live := hi.live
  glob := fun g j c hg => by
   obtain ⟨h1, v, h2, h3⟩ := hi.glob g j c hg
   exact ⟨h1, v, by simpa [World.cell?, hh] using h2, h3.mono fun b o hs => hst.ext.cells b o hs⟩ }
def upd (f : Nat → Nat) (s v : Nat) (i : Nat) : Nat := if i = s then v else f i
@[simp] theorem upd_same (f : Nat → Nat) (s v : Nat) : upd f s v s = v := by simp [upd]
theorem upd_other (f : Nat → Nat) {s v i : Nat} (h : i ≠ s) : upd f s v i = f i := by simp [upd, h]
structure Made (w w' : World) (arr : Array Value) (e : TypeId) (fr : Nat × Nat) : Prop where
 heap : w'.heap = w.heap.push (.cells arr e fr)
 os : w'.os = w.os
 tape : w'.tape = w.tape
 output : w'.output = w.output
 nf : ∀ o, o < arr.size → ¬ (fr.1 ≤ o ∧ o < fr.2)
theorem Made.size {w w' : World} {arr : Array Value} {e : TypeId} {fr : Nat × Nat} (h : Made w w' arr e fr) : w'.heap.size = w.heap.size + 1 := by simp [h.heap]
theorem Made.old {w w' : World} {arr : Array Value} {e : TypeId} {fr : Nat × Nat} (h : Made w w' arr e fr) {b : Nat} (hb : b < w.heap.size) : w'.heap[b]? = w.heap[b]? := by
 rw [h.heap, Array.getElem?_push, if_neg (Nat.ne_of_lt hb)]
theorem Made.new {w w' : World} {arr : Array Value} {e : TypeId} {fr : Nat × Nat} (h : Made w w' arr e fr) : w'.heap[w.heap.size]? = some (.cells arr e fr) := by
 rw [h.heap]; simp
theorem Made.cell {w w' : World} {arr : Array Value} {e : TypeId} {fr : Nat × Nat} (h : Made w w' arr e fr) {b o : Nat} (hb : b < w.heap.size) : w'.cell? ⟨b, o, none⟩ = w.cell? ⟨b, o, none⟩ := by
 simp [World.cell?, h.old hb]
theorem Made.cellNew {w w' : World} {arr : Array Value} {e : TypeId} {fr : Nat × Nat} (h : Made w w' arr e fr) (o : Nat) : w'.cell? ⟨w.heap.size, o, none⟩ = arr[o]? := by
 simp [World.cell?, h.new]
theorem Made.nfw {w w' : World} {arr : Array Value} {e : TypeId} {fr : Nat × Nat} (h : Made w w' arr e fr) (N : Nat) (hn : NF N w) : NF N w' := by
 refine NF.cells (g := w.heap.size) (lo := fr.1) (hi := fr.2) (arr := arr) (e := e) h.new h.nf (fun b hb => ?_) hn
 rcases Nat.lt_or_ge b w.heap.size with h1 | h1
 ·exact .inl (h.old h1)
 ·exact .inr (Array.getElem?_eq_none (by rw [h.size]; omega))
def Cx.make (x : Cx) (w' : World) (s cap : Nat) : Cx := { x with w := w', φ := upd x.φ s x.w.heap.size, κ := upd x.κ s cap }
theorem Step.make {x : Cx} {h : Heap} {w' : World} {arr : Array Value} {e : TypeId} {fr : Nat × Nat} (hm : Made x.w w' arr e fr) (hsh : ∀ b o, x.S b o → b < x.w.heap.size) {s cap : Nat} {o : Obj} (hs : h[s]? = some none) (hob : ∀ d, o ≠ .big d := by intro d h; cases h) :
  Step (fun _ => True) x h (x.make w' s cap) (h.set s (some o)) := by
 have hlt : s < h.length := (List.getElem?_eq_some_iff.1 hs).1
 have hnone : getO h s = none := by simp [getO, List.getD, hs]
 exact {
  ext := ⟨rfl, rfl, fun b o hS => ⟨hS, hm.cell (hsh b o hS)⟩⟩
  size := by simp [Cx.make, hm.size]
  evo := fun id _ hi => by
   have hne : id ≠ s := fun he => by rw [he, hnone] at hi; simp at hi
   refine ⟨.same (by rw [getO_set hlt, if_neg hne]) (upd_other _ hne) (upd_other _ hne), ?_⟩
   rw [getO_set hlt, if_neg hne]; exact hi
  frame := fun b hb _ _ => hm.old hb
  sgrow := fun b o hS => .inl hS
  bfresh := fun id d b hg hb => by
   by_cases hne : id = s
   ·rw [getO_set hlt, if_pos hne] at hg
    injection hg with hg
    exact absurd hg (hob d)
   ·rw [getO_set hlt, if_neg hne] at hg
    exact .inl ⟨id, d, hg, hb⟩
  fresh := fun id ob hg hmut => by
   by_cases hne : id = s
   ·right; simp [Cx.make, hne]
   ·left
    rw [getO_set hlt, if_neg hne] at hg
    exact ⟨id, ob, hg, hmut, upd_other _ hne⟩
  frow := fun id ob hg hrow => by
   by_cases hne : id = s
   ·right; simp [Cx.make, hne]
   ·left
    rw [getO_set hlt, if_neg hne] at hg
    exact ⟨id, ob, hg, hrow, fun h => h, upd_other _ hne⟩
  os := hm.os
  tape := hm.tape
  output := hm.output
  nf := hm.nfw }
theorem block_lt {G : Cf} {x : Cx} {h : Heap} (hi : Inv G x h) {id : Nat} {o : Obj} (hg : getO h id = some o) (hd : o ≠ .dead) : x.φ id < x.w.heap.size := by
 have := hi.obj id o hg
 cases o with
 | dead => exact absurd rfl hd
 | big d => exact x.bg.lt this
 | var cells => obtain ⟨arr, e, h1, _⟩ := this; exact (Array.getElem?_eq_some_iff.1 h1).1
 | row ety sz old fr l => obtain ⟨arr, h1, _⟩ := this; exact (Array.getElem?_eq_some_iff.1 h1).1
theorem Obj.mut_ne {o : Obj} (h : o.mut) : o ≠ .dead := by rintro rfl; exact h
theorem Inv.make {G : Cf} {x : Cx} {h : Heap} (hi : Inv G x h) {w' : World} {arr : Array Value} {e : TypeId} (hm : Made x.w w' arr e (0, 0)) {s cap : Nat} {o : Obj} (hs : h[s]? = some none)
  (hrel : ObjRel (x.make w' s cap) (h.set s (some o)) s o) (hlive : ∀ j ∈ o.refs, (getO (h.set s (some o)) j).isSome) (hob : ∀ d, o ≠ .big d := by intro d h; cases h) :
  Inv G (x.make w' s cap) (h.set s (some o)) := by
 have hlt : s < h.length := (List.getElem?_eq_some_iff.1 hs).1
 refine hi.update s (Step.make hm hi.sh hs hob) rfl (fun id d hg c hc => hm.old (hi.big id d hg c hc).1) (fun _ _ _ _ _ _ h => h) (fun o' hg => by
  rw [getO_set hlt, if_pos rfl] at hg
  injection hg with hg
  subst hg
  refine ⟨hob, fun _ id d hgd hO => ?_⟩
  have := (hi.big id d hgd _ hO).1
  simp [Cx.make] at this) (fun id hne => by rw [getO_set hlt, if_neg hne]) (fun id hne => upd_other _ hne) (fun id hne => upd_other _ hne)
  (fun id o' _ hg hd => hm.old (block_lt hi hg hd)) (fun id o' _ hg hmut => hi.own id o' hg hmut) (fun b o hS => ?_) (fun o' hg => ?_)
 ·have := hi.sh b o hS
  simp only [Cx.make, hm.size]; omega
 ·rw [getO_set hlt, if_pos rfl] at hg
  injection hg with hg
  subst hg
  refine ⟨hrel, hlive, fun _ j hS => ?_, fun _ id o' _ hg' hd' => ?_⟩
  ·have := hi.sh _ _ hS
   simp [Cx.make] at this
  ·have := block_lt hi hg' hd'
   simp only [Cx.make, upd_same]
   omega
def Cx.lay (x : Cx) (w' : World) (n : Nat) : Cx := { x with w := w', S := fun b o => x.S b o ∨ (b = x.w.heap.size ∧ o < n) }
theorem Step.lay {x : Cx} {h : Heap} {w' : World} {arr : Array Value} {e : TypeId} {fr : Nat × Nat} (hm : Made x.w w' arr e fr) (hsh : ∀ b o, x.S b o → b < x.w.heap.size) (n : Nat) :
  Step (fun _ => True) x h (x.lay w' n) h where
 ext := ⟨rfl, rfl, fun b o hS => ⟨.inl hS, hm.cell (hsh b o hS)⟩⟩
 size := by simp [Cx.lay, hm.size]
 evo := fun id _ hi => ⟨.same rfl rfl rfl, hi⟩
 frame := fun b hb _ _ => hm.old hb
 bfresh := fun id d b hg hb => .inl ⟨id, d, hg, hb⟩
 sgrow := fun b o hS => hS.elim .inl fun hb => .inr (.inr (.inl (by omega)))
 fresh := fun id ob hg hmut => .inl ⟨id, ob, hg, hmut, rfl⟩
 frow := fun id ob hg hrow => .inl ⟨id, ob, hg, hrow, fun h => h, rfl⟩
 os := hm.os
 tape := hm.tape
 output := hm.output
 nf := hm.nfw
theorem Inv.lay {G : Cf} {x : Cx} {h : Heap} (hi : Inv G x h) {w' : World} {arr : Array Value} {e : TypeId} {fr : Nat × Nat} (hm : Made x.w w' arr e fr) (n : Nat) : Inv G (x.lay w' n) h := by
 have hst := Step.lay (h := h) hm hi.sh n
 exact {
  obj := fun id o hg => by
   by_cases hd : o = .dead
   ·subst hd; trivial
   ·exact (hi.obj id o hg).mono hst.ext (hm.old (block_lt hi hg hd)) rfl rfl (fun j hj => .same rfl rfl rfl) fun d hd => by
     subst hd
     refine ⟨rfl, fun c hc => hm.old (hi.big id d hg c hc).1, fun c q hc hS => hS.elim (fun h => h) fun hb => ?_⟩
     have := (hi.big id d hg c hc).1
     omega
  bgo := hi.bgo
  big := fun id d hg b hO => by
   obtain ⟨h1, h2, h3⟩ := hi.big id d hg b hO
   exact ⟨by simp only [Cx.lay, hm.size]; omega, h2, h3⟩
  inj := hi.inj
  own := fun id o hg hmut j hS => hS.elim (hi.own id o hg hmut j) fun hb => by
   have := block_lt hi hg (Obj.mut_ne hmut)
   simp only [Cx.lay] at hb
   omega
  sh := fun b o hS => by
   simp only [Cx.lay, hm.size]
   rcases hS with hS | hS
   ·have := hi.sh b o hS; omega
   ·omega
  live := hi.live
  glob := fun g j c hg => by
   obtain ⟨h1, v, h2, h3⟩ := hi.glob g j c hg
   exact ⟨.inl h1, v, ((hst.ext.cells _ _ h1).2).trans h2, h3.mono fun b o hs => hst.ext.cells b o hs⟩ }
structure Wrote (w w' : World) (g : Nat) (arr : Array Value) (e : TypeId) : Prop where
 size : w'.heap.size = w.heap.size
 new : w'.heap[g]? = some (.cells arr e (0, 0))
 old : ∀ b, b ≠ g → w'.heap[b]? = w.heap[b]?
 os : w'.os = w.os
 tape : w'.tape = w.tape
 output : w'.output = w.output
theorem Step.write {G : Cf} {x : Cx} {h : Heap} (hi : Inv G x h) {w' : World} {s : Nat} {arr : Array Value} {e : TypeId} {o o' : Obj} (hw : Wrote x.w w' (x.φ s) arr e) (hg : getO h s = some o) (hmut : o.mut)
  (hev : Evo x h { x with w := w' } (h.set s (some o')) s) (hob : ∀ d, o' ≠ .big d := by intro d h; cases h) : Step (fun _ => True) x h { x with w := w' } (h.set s (some o')) := by
 have hlt := getO_lt (by rw [hg]; rfl : (getO h s).isSome)
 exact {
  ext := ⟨rfl, rfl, fun b o hS => ⟨hS, by
   have hne : b ≠ x.φ s := fun he => hi.own s _ hg hmut o (he ▸ hS)
   simp [World.cell?, hw.old b hne]⟩⟩
  size := by simp [hw.size]
  evo := fun id _ hid => by
   by_cases hne : id = s
   ·subst hne
    exact ⟨hev, by rw [getO_set hlt, if_pos rfl]; rfl⟩
   ·exact ⟨.same (by rw [getO_set hlt, if_neg hne]) rfl rfl, by rw [getO_set hlt, if_neg hne]; exact hid⟩
  frame := fun b hb hm _ => hw.old b fun he => hm s o hg hmut he.symm
  sgrow := fun b o hS => .inl hS
  bfresh := fun id d b hg' hb => by
   by_cases hne : id = s
   ·rw [getO_set hlt, if_pos hne] at hg'
    injection hg' with hg'
    exact absurd hg' (hob d)
   ·rw [getO_set hlt, if_neg hne] at hg'
    exact .inl ⟨id, d, hg', hb⟩
  fresh := fun id ob hg' hmut' => by
   left
   by_cases hne : id = s
   ·exact ⟨s, o, hg, hmut, by rw [hne]⟩
   ·rw [getO_set hlt, if_neg hne] at hg'
    exact ⟨id, ob, hg', hmut', rfl⟩
  frow := fun id ob hg' hrow => by
   left
   by_cases hne : id = s
   ·subst hne
    cases ob <;> simp only [Obj.isRow] at hrow
    obtain ⟨_, _, _, g0, _⟩ := hev.row _ _ _ _ _ hg'
    exact ⟨id, _, g0, trivial, fun _ => by rw [hg] at g0; injection g0 with g0; exact g0 ▸ hmut, rfl⟩
   ·rw [getO_set hlt, if_neg hne] at hg'
    exact ⟨id, ob, hg', hrow, fun h => h, rfl⟩
  os := hw.os
  tape := hw.tape
  output := hw.output
  nf := fun N hn => NF.cells hw.new (fun o _ h => by omega) (fun b hb => .inl (hw.old b hb)) hn }
theorem Inv.write {G : Cf} {x : Cx} {h : Heap} (hi : Inv G x h) {w' : World} {s : Nat} {arr : Array Value} {e : TypeId} {o o' : Obj} (hw : Wrote x.w w' (x.φ s) arr e) (hg : getO h s = some o) (hmut : o.mut)
  (hev : Evo x h { x with w := w' } (h.set s (some o')) s) (hrel : ObjRel { x with w := w' } (h.set s (some o')) s o') (hlive : ∀ j ∈ o'.refs, (getO (h.set s (some o')) j).isSome) (hob : ∀ d, o' ≠ .big d := by intro d h; cases h) :
  Inv G { x with w := w' } (h.set s (some o')) := by
 have hlt := getO_lt (by rw [hg]; rfl : (getO h s).isSome)
 refine hi.update s (Step.write hi hw hg hmut hev hob) rfl (fun id d hgd c hc => hw.old c fun he => (hi.big id d hgd c hc).2.1 s o hg (Obj.mut_ne hmut) he.symm) (fun _ _ _ _ _ _ h => h) (fun o2 hg2 => by
  rw [getO_set hlt, if_pos rfl] at hg2
  injection hg2 with hg2
  subst hg2
  exact ⟨hob, fun _ id d hgd hO => (hi.big id d hgd _ hO).2.1 s o hg (Obj.mut_ne hmut) rfl⟩) (fun id hne => by rw [getO_set hlt, if_neg hne]) (fun _ _ => rfl) (fun _ _ => rfl)
  (fun id ob hne hg' hd => hw.old _ fun he => hne (hi.inj id s ob o hg' hg hd (Obj.mut_ne hmut) he)) (fun id ob _ hg' hm' => hi.own id ob hg' hm') (fun b o hS => ?_) (fun ob hg' => ?_)
 ·simpa [hw.size] using hi.sh b o hS
 ·rw [getO_set hlt, if_pos rfl] at hg'
  injection hg' with hg'
  subst hg'
  exact ⟨hrel, hlive, fun _ j => hi.own s o hg hmut j, fun _ id ob hne hgi hd he => hne (hi.inj id s ob o hgi hg hd (Obj.mut_ne hmut) he.symm)⟩
end Go.Ev
