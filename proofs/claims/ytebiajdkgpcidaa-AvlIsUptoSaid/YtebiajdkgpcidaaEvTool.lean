/-
  Rules for numbers, truth values, bytes and slices, for carrying out functions by rewriting.
-/
import Derived.Test.YtebiajdkgpcidaaEvMono
import Derived.Attr
set_option linter.unusedSimpArgs false
set_option linter.unusedVariables false
namespace Go.Ev

/-! ### What arithmetic decides -/
theorem ilt_t {a b : Int} (h : a < b) : (a < b) = True := by simp [h]
theorem ilt_f {a b : Int} (h : ¬ a < b) : (a < b) = False := by simp [h]
theorem ile_t {a b : Int} (h : a ≤ b) : (a ≤ b) = True := by simp [h]
theorem ile_f {a b : Int} (h : ¬ a ≤ b) : (a ≤ b) = False := by simp [h]
theorem ieq_t {a b : Int} (h : a = b) : (a = b) = True := by simp [h]
theorem ieq_f {a b : Int} (h : ¬ a = b) : (a = b) = False := by simp [h]
theorem nlt_t {a b : Nat} (h : a < b) : (a < b) = True := by simp [h]
theorem nlt_f {a b : Nat} (h : ¬ a < b) : (a < b) = False := by simp [h]
theorem nle_t {a b : Nat} (h : a ≤ b) : (a ≤ b) = True := by simp [h]
theorem nle_f {a b : Nat} (h : ¬ a ≤ b) : (a ≤ b) = False := by simp [h]
theorem neq_t {a b : Nat} (h : a = b) : (a = b) = True := by simp [h]
theorem neq_f {a b : Nat} (h : ¬ a = b) : (a = b) = False := by simp [h]

theorem bft : (false == true) = false := rfl
theorem btf : (true == false) = false := rfl
theorem bff : (false == false) = true := rfl
theorem btt : (true == true) = true := rfl
theorem beq_t {b : Bool} : (b == true) = b := by cases b <;> rfl
theorem beq_f {b : Bool} : (b == false) = !b := by cases b <;> rfl

/-! ### Numbers -/
theorem v_add {tk : TK} {k : IntKind} {a b : Int} : binV tk .add (.int k a) (.int k b) = some (.int k (k.wrap (a + b))) := by simp [binV, arithI]
theorem v_sub {tk : TK} {k : IntKind} {a b : Int} : binV tk .sub (.int k a) (.int k b) = some (.int k (k.wrap (a - b))) := by simp [binV, arithI]
theorem v_mul {tk : TK} {k : IntKind} {a b : Int} : binV tk .mul (.int k a) (.int k b) = some (.int k (k.wrap (a * b))) := by simp [binV, arithI]
theorem v_quo {tk : TK} {k : IntKind} {a b : Int} (h : ¬ b = 0) : binV tk .quo (.int k a) (.int k b) = some (.int k (k.wrap (a.tdiv b))) := by simp [binV, arithI, h]
theorem v_rem {tk : TK} {k : IntKind} {a b : Int} (h : ¬ b = 0) : binV tk .rem (.int k a) (.int k b) = some (.int k (a.tmod b)) := by simp [binV, arithI, h]
def orI (k : IntKind) (x y : Int) : Int := k.wrap (BitVec.ofInt k.bits x ||| BitVec.ofInt k.bits y).toNat
def xorI (k : IntKind) (x y : Int) : Int := k.wrap (BitVec.ofInt k.bits x ^^^ BitVec.ofInt k.bits y).toNat
def andI (k : IntKind) (x y : Int) : Int := k.wrap (BitVec.ofInt k.bits x &&& BitVec.ofInt k.bits y).toNat
def andNotI (k : IntKind) (x y : Int) : Int := k.wrap (BitVec.ofInt k.bits x &&& ~~~BitVec.ofInt k.bits y).toNat
def notI (k : IntKind) (x : Int) : Int := xorI k (if k.signed then -1 else k.max) x
theorem v_or {tk : TK} {k : IntKind} {a b : Int} : binV tk .or (.int k a) (.int k b) = some (.int k (orI k a b)) := by simp [binV, arithI, bitsI, orI]
theorem v_xor {tk : TK} {k : IntKind} {a b : Int} : binV tk .xor (.int k a) (.int k b) = some (.int k (xorI k a b)) := by simp [binV, arithI, bitsI, xorI]
theorem v_and {tk : TK} {k : IntKind} {a b : Int} : binV tk .and (.int k a) (.int k b) = some (.int k (andI k a b)) := by simp [binV, arithI, bitsI, andI]
theorem v_andNot {tk : TK} {k : IntKind} {a b : Int} : binV tk .andNot (.int k a) (.int k b) = some (.int k (andNotI k a b)) := by simp [binV, arithI, bitsI, andNotI]
theorem v_shl {tk : TK} {k k' : IntKind} {a b : Int} (h : 0 ≤ b) : binV tk .shl (.int k a) (.int k' b) = some (.int k (k.wrap (a * 2 ^ (min b.toNat k.bits)))) := by
  simp only [binV, shiftI]; rw [if_neg (by omega)]; rfl
theorem v_shr {tk : TK} {k k' : IntKind} {a b : Int} (h : 0 ≤ b) : binV tk .shr (.int k a) (.int k' b) = some (.int k (a.fdiv (2 ^ (min b.toNat k.bits)))) := by
  simp only [binV, shiftI]; rw [if_neg (by omega)]; rfl
theorem v_eql {tk : TK} {k : IntKind} {a b : Int} : binV tk .eql (.int k a) (.int k b) = some (.bool (decide (a = b))) := by
  simp only [binV, if_true, cmpI, Option.map_some]
  by_cases h : a = b <;> simp [h]
theorem v_neq {tk : TK} {k : IntKind} {a b : Int} : binV tk .neq (.int k a) (.int k b) = some (.bool (!decide (a = b))) := by
  simp only [binV, if_true, cmpI, Option.map_some]
  by_cases h : a = b <;> simp [h]
theorem v_lss {tk : TK} {k : IntKind} {a b : Int} : binV tk .lss (.int k a) (.int k b) = some (.bool (decide (a < b))) := by simp [binV, cmpI]
theorem v_leq {tk : TK} {k : IntKind} {a b : Int} : binV tk .leq (.int k a) (.int k b) = some (.bool (decide (a ≤ b))) := by simp [binV, cmpI]
theorem v_gtr {tk : TK} {k : IntKind} {a b : Int} : binV tk .gtr (.int k a) (.int k b) = some (.bool (decide (b < a))) := by simp [binV, cmpI]
theorem v_geq {tk : TK} {k : IntKind} {a b : Int} : binV tk .geq (.int k a) (.int k b) = some (.bool (decide (b ≤ a))) := by simp [binV, cmpI]
theorem v_str {tk : TK} {op : BinOp} {a b : ByteArray} : binV tk op (.string a) (.string b) = strOp op a b := by cases op <;> rfl
theorem v_beql {a b : Bool} : binV .bool .eql (.bool a) (.bool b) = some (.bool (a == b)) := rfl
theorem v_bneq {a b : Bool} : binV .bool .neq (.bool a) (.bool b) = some (.bool (!(a == b))) := rfl
theorem v_ifc {e : Nat} {c : Bool} {op : BinOp} {t u : Nat} {x y : Value} : binV (.iface e c) op (.iface t x) (.iface u y) = ((eqIface e c (.iface t x) (.iface u y)).bind (negIf op)).map .bool := by cases op <;> rfl
theorem v_ifc_nr {e : Nat} {c : Bool} {op : BinOp} {t : Nat} {x : Value} : binV (.iface e c) op (.iface t x) .nilIface = ((some false).bind (negIf op)).map .bool := by cases op <;> rfl
theorem v_ifc_nl {e : Nat} {c : Bool} {op : BinOp} {t : Nat} {x : Value} : binV (.iface e c) op .nilIface (.iface t x) = ((some false).bind (negIf op)).map .bool := by cases op <;> rfl
theorem v_ifc_nn {e : Nat} {op : BinOp} : binV (.iface e true) op .nilIface .nilIface = ((some true).bind (negIf op)).map .bool := by cases op <;> rfl
theorem v_ptr {op : BinOp} : binV .ptr op (.pointer none) (.pointer none) = (negIf op true).map .bool := by cases op <;> rfl
theorem eqIface_int {e : Nat} {c : Bool} {k : IntKind} {a b : Int} : eqIface e c (.iface e (.int k a)) (.iface e (.int k b)) = some (decide (a = b)) := by
  simp only [eqIface, if_true, and_self]
  by_cases h : a = b <;> simp [h]
theorem eqIface_ne {e t u : Nat} {c : Bool} {k k' : IntKind} {a b : Int} (h : ¬ t = u) : eqIface e c (.iface t (.int k a)) (.iface u (.int k' b)) = some false := by
  simp only [eqIface]
  rw [if_neg h]
theorem n_eql {b : Bool} : negIf .eql b = some b := rfl
theorem n_neq {b : Bool} : negIf .neq b = some (!b) := rfl
theorem binA_s {tk : TK} {op : BinOp} {a b : Value} : binA tk op (.s a) (.s b) = binV tk op a b := rfl
theorem s_eql {a b : ByteArray} : strOp .eql a b = some (.bool (a.toList == b.toList)) := rfl
theorem s_neq {a b : ByteArray} : strOp .neq a b = some (.bool (!(a.toList == b.toList))) := rfl
theorem s_lss {a b : ByteArray} : strOp .lss a b = some (.bool (Op.bytesLess a.toList b.toList)) := rfl
theorem s_leq {a b : ByteArray} : strOp .leq a b = some (.bool (Op.bytesLess a.toList b.toList || a.toList == b.toList)) := rfl
theorem s_gtr {a b : ByteArray} : strOp .gtr a b = some (.bool !(Op.bytesLess a.toList b.toList || a.toList == b.toList)) := rfl
theorem s_geq {a b : ByteArray} : strOp .geq a b = some (.bool !(Op.bytesLess a.toList b.toList)) := rfl
theorem s_add {a b : ByteArray} (h : a.size + b.size ≤ 9223372036854775807) : strOp .add a b = some (.string (a ++ b)) := by
  have : IntKind.max .i64 = 9223372036854775807 := by decide
  simp only [strOp]
  rw [this, if_neg (by omega)]

theorem wrap_u {k : IntKind} (hs : k.signed = false) {n : Int} (h0 : 0 ≤ n) (h1 : n < 2 ^ k.bits) : k.wrap n = n := by
  simp only [IntKind.wrap, hs, Bool.false_and, Bool.false_eq_true, if_false]
  exact Int.emod_eq_of_lt h0 h1
theorem wrap_u64 {n : Int} (h : 0 ≤ n ∧ n < 18446744073709551616) : IntKind.wrap .u64 n = n := wrap_u rfl h.1 h.2
theorem wrap_u8 {n : Int} (h : 0 ≤ n ∧ n < 256) : IntKind.wrap .u8 n = n := wrap_u rfl h.1 h.2
theorem wrap_u32 {n : Int} (h : 0 ≤ n ∧ n < 4294967296) : IntKind.wrap .u32 n = n := wrap_u rfl h.1 h.2
theorem wrap_i64 {n : Int} (h : -9223372036854775808 ≤ n ∧ n < 9223372036854775808) : IntKind.wrap .i64 n = n := by
  simp [IntKind.wrap, IntKind.signed, IntKind.bits]; omega
theorem tdiv_nn {a b : Int} (h : 0 ≤ a) : a.tdiv b = a / b := Int.tdiv_eq_ediv_of_nonneg h
theorem tmod_nn {a b : Int} (h : 0 ≤ a) : a.tmod b = a % b := Int.tmod_eq_emod_of_nonneg h

/-! ### Bytes -/
/-- A byte, as a cell. -/
def e1 (b : UInt8) : List C := [.sc (.int .u8 (b.toNat : Int))]
theorem eB_nil : eB [] = [] := rfl
theorem eB_cons {b : UInt8} {l : List UInt8} : eB (b :: l) = e1 b :: eB l := rfl
theorem eB_append {a b : List UInt8} : eB (a ++ b) = eB a ++ eB b := by simp [eB]
theorem eB_len {l : List UInt8} : (eB l).length = l.length := by simp [eB]
theorem eB_sz {l : List UInt8} : szOk 1 (eB l) = true := by simp [szOk, eB]
theorem bytesOf_eB {l : List UInt8} : bytesOf (eB l) = some l := by
  induction l with
  | nil => rfl
  | cons b l ih => simp only [eB, List.map_cons, bytesOf] at ih ⊢; rw [ih]; simp
theorem eB_take {l : List UInt8} {n : Nat} : (eB l).take n = eB (l.take n) := by simp [eB]
theorem eB_drop {l : List UInt8} {n : Nat} : (eB l).drop n = eB (l.drop n) := by simp [eB]
theorem eB_get {l : List UInt8} {i : Nat} (h : i < l.length) : (eB l)[i]? = some (e1 (l.getD i 0)) := by
  simp [eB, e1, List.getElem?_map, List.getD, h]
theorem eB_inj {a b : List UInt8} (h : eB a = eB b) : a = b := by
  have h1 := bytesOf_eB (l := a)
  rw [h, bytesOf_eB] at h1
  exact (Option.some.inj h1).symm
theorem toList_mk {l : List UInt8} : (ByteArray.mk l.toArray).toList = l := by
  have : ∀ (n : Nat) (i : Nat) (r : List UInt8), l.length - i = n → ByteArray.toList.loop ⟨l.toArray⟩ i r = r.reverse ++ l.drop i := by
    intro n
    induction n with
    | zero =>
      intro i r h
      unfold ByteArray.toList.loop
      rw [if_neg (by simp [ByteArray.size]; omega), List.drop_of_length_le (by omega)]
      simp
    | succ n ih =>
      intro i r h
      have hi : i < l.length := by omega
      unfold ByteArray.toList.loop
      rw [if_pos (by simpa [ByteArray.size] using hi), ih (i + 1) _ (by omega)]
      have hg : (ByteArray.mk l.toArray).get! i = l[i] := by
        show l.toArray[i]! = l[i]
        simp [hi]
      rw [hg, List.reverse_cons, List.append_assoc, List.drop_eq_getElem_cons hi]
      rfl
  have := this _ 0 [] rfl
  simpa [ByteArray.toList] using this
/-- A string's bytes. -/
theorem data_mk {l : List UInt8} : (ByteArray.mk l.toArray).data.toList = l := rfl
theorem size_mk {l : List UInt8} : (ByteArray.mk l.toArray).size = l.length := by simp [ByteArray.size]
/-- A number as a byte. -/
def byt (n : Int) : UInt8 := UInt8.ofNat (n % 256).toNat
theorem byt_toNat {b : UInt8} : byt (b.toNat : Int) = b := by
  have := b.toNat_lt
  have h : (((b.toNat : Int) % 256).toNat) = b.toNat := by omega
  simp [byt, h]
theorem toNat_byt {n : Int} : ((byt n).toNat : Int) = n % 256 := by
  have h : (n % 256).toNat % 256 = (n % 256).toNat := Nat.mod_eq_of_lt (by omega)
  simp [byt]
  omega
theorem sc_wrap {n : Int} : [C.sc (.int .u8 (IntKind.wrap .u8 n))] = e1 (byt n) := by
  have : IntKind.wrap .u8 n = n % 256 := by simp [IntKind.wrap, IntKind.signed, IntKind.bits]
  rw [this, e1, toNat_byt]
theorem sc_u8 {n : Int} (h : 0 ≤ n ∧ n < 256) : [C.sc (.int .u8 n)] = e1 (byt n) := by
  rw [e1, toNat_byt, Int.emod_eq_of_lt h.1 h.2]
theorem sc_toNat {b : UInt8} : [C.sc (.int .u8 (b.toNat : Int))] = e1 b := rfl
theorem eB_snoc {l : List UInt8} {b : UInt8} : eB l ++ [e1 b] = eB (l ++ [b]) := by simp [eB, e1]
theorem eB_app {a b : List UInt8} : eB a ++ eB b = eB (a ++ b) := by simp [eB]
theorem eB_set {l : List UInt8} {i : Nat} {b : UInt8} : (eB l).set i (e1 b) = eB (l.set i b) := by simp [eB, e1, List.map_set]
theorem szOk_nil {sz : Nat} : szOk sz [] = true := rfl
theorem szOk_cons {sz : Nat} {e : List C} {l : List (List C)} : szOk sz (e :: l) = (decide (e.length = sz) && szOk sz l) := by
  simp [szOk]
  by_cases h : e.length = sz <;> simp [h]
theorem e1_one {b : UInt8} : [e1 b] = eB [b] := rfl
theorem e1_cons {b : UInt8} {l : List UInt8} : e1 b :: eB l = eB (b :: l) := rfl
theorem e1_len {b : UInt8} : (e1 b).length = 1 := rfl
theorem ofCs_e1 {o : Bool} {b : UInt8} : ofCs o false (e1 b) = some (.s (.int .u8 (b.toNat : Int))) := rfl
theorem e1_take {b : UInt8} : (e1 b).take 1 = e1 b := rfl
theorem e1_drop {b : UInt8} : (e1 b).drop 0 = e1 b := rfl

/-! ### A slice that is nil if it is empty -/
def slA : List (List C) → AV
  | [] => .nilsl
  | l => .sl true l
theorem slA_nil : slA [] = .nilsl := rfl
theorem slA_cons {x : List C} {l : List (List C)} : slA (x :: l) = .sl true (x :: l) := rfl
theorem slA_eB {b : UInt8} {l : List UInt8} : slA (eB (b :: l)) = .sl true (eB (b :: l)) := rfl
theorem slA_refs {l : List (List C)} : (slA l).refs = [] := by cases l <;> rfl
theorem slA_ren {r : Nat → Nat} {l : List (List C)} : (slA l).ren r = slA l := by cases l <;> rfl
theorem slA_age {l : List (List C)} : (slA l).age true = slA l := by cases l <;> rfl
theorem slA_elems {h : Heap} {l : List (List C)} : elems h (slA l) = some (!l.isEmpty, l) := by cases l <;> rfl
theorem slA_frz {h : Heap} {l : List (List C)} : frz h (slA l) = some (slA l, h) := by cases l <;> rfl
theorem slA_frz1 {h : Heap} {l : List (List C)} : frz1 h (slA l) = some (slA l, h) := by cases l <;> rfl
theorem slA_canon {l : List (List C)} : (slA l).canon = .sl true l := by cases l <;> rfl
theorem slA_canon1 {l : List (List C)} : (slA l).canon1 = .sl true l := by cases l <;> rfl
theorem slA_toC {l : List (List C)} : (slA l).toC = some (.sl l) := by cases l <;> rfl
theorem slA_cells {l : List (List C)} : (slA l).cells = [slA l] := by cases l <;> rfl
theorem slA_cellOk {l : List (List C)} : (slA l).cellOk = true := by cases l <;> rfl
theorem app_src {h : Heap} {v : AV} {l : List (List C)} (hv : v = slA l) : (match v with
    | .s (.string s) => some (false, eB s.data.toList)
    | v => elems h v) = some (!l.isEmpty, l) := by
  subst hv; cases l <;> rfl

theorem cells_undef  : (.undef : AV).cells = [.undef] := rfl
theorem cellOk_undef  : (.undef : AV).cellOk = false := rfl
theorem canon_undef  : (.undef : AV).canon = .undef := rfl
theorem frz_undef (h : Heap)  : frz h (.undef) = some (.undef, h) := rfl
theorem canon1_undef  : (.undef : AV).canon1 = .undef := rfl
theorem frz1_undef (h : Heap)  : frz1 h (.undef) = some (.undef, h) := rfl
theorem cells_s (v : Value) : (.s v : AV).cells = [.s v] := rfl
theorem cellOk_s (v : Value) : (.s v : AV).cellOk = v.oneCell' := rfl
theorem toC_s (v : Value) : (.s v : AV).toC = if v.oneCell' then some (.sc v) else none := rfl
theorem canon_s (v : Value) : (.s v : AV).canon = .s v := rfl
theorem frz_s (h : Heap) (v : Value) : frz h (.s v) = some (.s v, h) := rfl
theorem canon1_s (v : Value) : (.s v : AV).canon1 = .s v := rfl
theorem frz1_s (h : Heap) (v : Value) : frz1 h (.s v) = some (.s v, h) := rfl
theorem cells_sl (o : Bool) (l : List (List C)) : (.sl o l : AV).cells = [.sl o l] := rfl
theorem cellOk_sl (o : Bool) (l : List (List C)) : (.sl o l : AV).cellOk = true := rfl
theorem toC_sl (o : Bool) (l : List (List C)) : (.sl o l : AV).toC = some (.sl l) := rfl
theorem canon_sl (o : Bool) (l : List (List C)) : (.sl o l : AV).canon = .sl o l := rfl
theorem frz_sl (h : Heap) (o : Bool) (l : List (List C)) : frz h (.sl o l) = some (.sl o l, h) := rfl
theorem canon1_sl (o : Bool) (l : List (List C)) : (.sl o l : AV).canon1 = .sl o l := rfl
theorem frz1_sl (h : Heap) (o : Bool) (l : List (List C)) : frz1 h (.sl o l) = some (.sl o l, h) := rfl
theorem elems_sl (h : Heap) (o : Bool) (l : List (List C)) : elems h (.sl o l) = some (o, l) := rfl
theorem srcE_sl (h : Heap) (o : Bool) (l : List (List C)) : srcE h (.sl o l) = some (o, l) := rfl
theorem cells_nilsl  : (.nilsl : AV).cells = [.nilsl] := rfl
theorem cellOk_nilsl  : (.nilsl : AV).cellOk = true := rfl
theorem toC_nilsl  : (.nilsl : AV).toC = some (.sl []) := rfl
theorem canon_nilsl  : (.nilsl : AV).canon = .sl true [] := rfl
theorem frz_nilsl (h : Heap)  : frz h (.nilsl) = some (.nilsl, h) := rfl
theorem canon1_nilsl  : (.nilsl : AV).canon1 = .sl true [] := rfl
theorem frz1_nilsl (h : Heap)  : frz1 h (.nilsl) = some (.nilsl, h) := rfl
theorem elems_nilsl (h : Heap)  : elems h (.nilsl) = some (false, []) := rfl
theorem srcE_nilsl (h : Heap)  : srcE h (.nilsl) = some (false, []) := rfl
theorem cells_esl  : (.esl : AV).cells = [.esl] := rfl
theorem cellOk_esl  : (.esl : AV).cellOk = true := rfl
theorem canon_esl  : (.esl : AV).canon = .esl := rfl
theorem frz_esl (h : Heap)  : frz h (.esl) = some (.esl, h) := rfl
theorem canon1_esl  : (.esl : AV).canon1 = .esl := rfl
theorem frz1_esl (h : Heap)  : frz1 h (.esl) = some (.esl, h) := rfl
theorem elems_esl (h : Heap)  : elems h (.esl) = some (true, []) := rfl
theorem srcE_esl (h : Heap)  : srcE h (.esl) = some (true, []) := rfl
theorem cells_row (id n : Nat) : (.row id n : AV).cells = [.row id n] := rfl
theorem cellOk_row (id n : Nat) : (.row id n : AV).cellOk = true := rfl
theorem canon_row (id n : Nat) : (.row id n : AV).canon = .row id n := rfl
theorem canon1_row (id n : Nat) : (.row id n : AV).canon1 = .row id n := rfl
theorem cells_ptr (id o : Nat) : (.ptr id o : AV).cells = [.ptr id o] := rfl
theorem cellOk_ptr (id o : Nat) : (.ptr id o : AV).cellOk = true := rfl
theorem canon_ptr (id o : Nat) : (.ptr id o : AV).canon = .ptr id o := rfl
theorem frz_ptr (h : Heap) (id o : Nat) : frz h (.ptr id o) = some (.ptr id o, h) := rfl
theorem canon1_ptr (id o : Nat) : (.ptr id o : AV).canon1 = .ptr id o := rfl
theorem frz1_ptr (h : Heap) (id o : Nat) : frz1 h (.ptr id o) = some (.ptr id o, h) := rfl
theorem cells_eptr (id n i k : Nat) : (.eptr id n i k : AV).cells = [.eptr id n i k] := rfl
theorem cellOk_eptr (id n i k : Nat) : (.eptr id n i k : AV).cellOk = true := rfl
theorem canon_eptr (id n i k : Nat) : (.eptr id n i k : AV).canon = .eptr id n i k := rfl
theorem frz_eptr (h : Heap) (id n i k : Nat) : frz h (.eptr id n i k) = some (.eptr id n i k, h) := rfl
theorem canon1_eptr (id n i k : Nat) : (.eptr id n i k : AV).canon1 = .eptr id n i k := rfl
theorem frz1_eptr (h : Heap) (id n i k : Nat) : frz1 h (.eptr id n i k) = some (.eptr id n i k, h) := rfl
theorem cells_daddr (o : Bool) (l : List C) : (.daddr o l : AV).cells = [.daddr o l] := rfl
theorem cellOk_daddr (o : Bool) (l : List C) : (.daddr o l : AV).cellOk = true := rfl
theorem canon_daddr (o : Bool) (l : List C) : (.daddr o l : AV).canon = .daddr o l := rfl
theorem frz_daddr (h : Heap) (o : Bool) (l : List C) : frz h (.daddr o l) = some (.daddr o l, h) := rfl
theorem canon1_daddr (o : Bool) (l : List C) : (.daddr o l : AV).canon1 = .daddr o l := rfl
theorem frz1_daddr (h : Heap) (o : Bool) (l : List C) : frz1 h (.daddr o l) = some (.daddr o l, h) := rfl
theorem cells_agg (l : List AV) : (.agg l : AV).cells = l := rfl
theorem cellOk_agg (l : List AV) : (.agg l : AV).cellOk = false := rfl
theorem canon_agg (l : List AV) : (.agg l : AV).canon = .agg (l.map AV.canon1) := rfl
theorem frz_agg (h : Heap) (l : List AV) : frz h (.agg l) = match frzL h l with
    | some (l', h') => some (.agg l', h')
    | none => none := rfl
theorem canon1_agg (l : List AV) : (.agg l : AV).canon1 = .agg l := rfl
theorem frz1_agg (h : Heap) (l : List AV) : frz1 h (.agg l) = some (.agg l, h) := rfl
theorem cells_tup (l : List AV) : (.tup l : AV).cells = [.tup l] := rfl
theorem cellOk_tup (l : List AV) : (.tup l : AV).cellOk = false := rfl
theorem canon_tup (l : List AV) : (.tup l : AV).canon = .tup l := rfl
theorem frz_tup (h : Heap) (l : List AV) : frz h (.tup l) = some (.tup l, h) := rfl
theorem canon1_tup (l : List AV) : (.tup l : AV).canon1 = .tup l := rfl
theorem frz1_tup (h : Heap) (l : List AV) : frz1 h (.tup l) = some (.tup l, h) := rfl
theorem cells_ifc (t : Nat) (v : AV) : (.ifc t v : AV).cells = [.ifc t v] := rfl
theorem cellOk_ifc (t : Nat) (v : AV) : (.ifc t v : AV).cellOk = true := rfl
theorem canon_ifc (t : Nat) (v : AV) : (.ifc t v : AV).canon = .ifc t v := rfl
theorem frz_ifc (h : Heap) (t : Nat) (v : AV) : frz h (.ifc t v) = some (.ifc t v, h) := rfl
theorem canon1_ifc (t : Nat) (v : AV) : (.ifc t v : AV).canon1 = .ifc t v := rfl
theorem frz1_ifc (h : Heap) (t : Nat) (v : AV) : frz1 h (.ifc t v) = some (.ifc t v, h) := rfl
theorem cells_clos (f : Nat) (l : List AV) : (.clos f l : AV).cells = [.clos f l] := rfl
theorem cellOk_clos (f : Nat) (l : List AV) : (.clos f l : AV).cellOk = true := rfl
theorem canon_clos (f : Nat) (l : List AV) : (.clos f l : AV).canon = .clos f l := rfl
theorem frz_clos (h : Heap) (f : Nat) (l : List AV) : frz h (.clos f l) = some (.clos f l, h) := rfl
theorem canon1_clos (f : Nat) (l : List AV) : (.clos f l : AV).canon1 = .clos f l := rfl
theorem frz1_clos (h : Heap) (f : Nat) (l : List AV) : frz1 h (.clos f l) = some (.clos f l, h) := rfl
theorem frz_row (h : Heap) (id n : Nat) : frz h (.row id n) = match rowAt h id n with
    | some (e, s, o, _, l) => some (.sl o l, h.set id (some (.row e s o true l)))
    | none => none := rfl
theorem frz1_row (h : Heap) (id n : Nat) : frz1 h (.row id n) = match rowAt h id n with
    | some (e, s, o, _, l) => some (.sl o l, h.set id (some (.row e s o true l)))
    | none => none := rfl
theorem elems_row (h : Heap) (id n : Nat) : elems h (.row id n) = match rowAt h id n with
    | some (_, _, o, _, l) => some (o, l)
    | none => none := rfl
theorem srcE_row (h : Heap) (id n : Nat) : srcE h (.row id n) = match rowAt h id n with
    | some (_, _, o, _, l) => some (o, l)
    | none => none := rfl
theorem srcE_str (h : Heap) (s : ByteArray) : srcE h (.s (.string s)) = some (false, eB s.data.toList) := rfl
theorem srcE_slA (h : Heap) (l : List (List C)) : srcE h (slA l) = some (!l.isEmpty, l) := by cases l <;> rfl
/-- An append. -/
def appK (h : Heap) (slot ety sz bytes : Nat) (x : AV) : Option (Bool × List (List C)) → Option (AV × Heap)
  | some (o, m) => if szOk sz m then (match x with
      | .nilsl => if m.isEmpty then some (.nilsl, h) else if m.length * bytes ≤ 140737488355328 ∧ m.length ≤ 140737488355328 then (match alloc [(slot, .row ety sz o false m)] h with
        | some h' => some (.row slot m.length, h')
        | none => none) else none
      | .row id n => match rowAt h id n with
        | some (e, s, o', false, l) => if e = ety ∧ s = sz ∧ (l.length + m.length) * bytes ≤ 140737488355328 ∧ l.length + m.length ≤ 140737488355328 then some (.row id (l ++ m).length, h.set id (some (.row e s (o' || o) false (l ++ m)))) else none
        | _ => none
      | _ => none) else none
  | none => none
/-- A store. -/
def storeK (h : Heap) (sz : Nat) (a x : AV) : Option (AV × Heap) :=
  if x.cells.length = sz ∧ x.cells.all AV.cellOk then
    (match a with
    | .ptr id o => match getO h id with
      | some (.var cells) => if o + sz ≤ cells.length then some (.s undef, h.set id (some (.var (cells.take o ++ x.cells ++ cells.drop (o + sz))))) else none
      | _ => none
    | .eptr id n i k => match rowAt h id n with
      | some (e, s, old, false, l) => match l[i]?, toCs x.cells with
        | some el, some cs => if k + sz ≤ el.length then some (.s undef, h.set id (some (.row e s (old || x.isOld) false (l.set i (el.take k ++ cs ++ el.drop (k + sz)))))) else none
        | _, _ => none
      | _ => none
    | _ => none) else none
def callvK (F : FnEv) (h : Heap) (g : AV) (args : List AV) (outs : List Nat) : Option (AV × Heap) := match g with
  | .clos f caps => if f < 1000000 then evCall F h f (args ++ caps) outs else none
  | _ => none

section
variable {G : Cf} {F : FnEv} {t : List AV} {h : Heap}
theorem evW_app' {slot ety sz bytes : Nat} {x y : O} : evW G t F h (.app slot ety sz bytes x y) = appK h slot ety sz bytes (rho G t x) (srcE h (rho G t y)) := by
  rw [evW_app]
  simp only [appK]
  cases srcE h (rho G t y) with
  | none => rfl
  | some p => rfl
theorem evW_store {sz : Nat} {a x : O} : evW G t F h (.store sz a x) = storeK h sz (rho G t a) (rho G t x) := rfl
theorem evW_call {f : Nat} {args : List O} {outs : List Nat} : evW G t F h (.call f args outs) = evCall F h f (args.map (rho G t)) outs := rfl
theorem evW_callv {g : O} {args : List O} {outs : List Nat} : evW G t F h (.callv g args outs) = callvK F h (rho G t g) (args.map (rho G t)) outs := by
  simp only [evW, callvK]
  cases rho G t g <;> rfl
theorem callvK_clos {f : Nat} {caps args : List AV} {outs : List Nat} : callvK F h (.clos f caps) args outs = if f < 1000000 then evCall F h f (args ++ caps) outs else none := rfl
theorem evW_appz {slot ety sz bytes : Nat} {zero : List Value} {x n : O} : evW G t F h (.appz slot ety sz bytes zero x n) = match rho G t n with
    | .s (.int .i64 m) => if 0 ≤ m ∧ m * bytes ≤ 140737488355328 ∧ m ≤ 140737488355328 then (match rho G t x with
      | .nilsl => if m = 0 then some (.nilsl, h) else (match alloc [(slot, .row ety sz false false (List.replicate m.toNat (zero.map cOf)))] h with
        | some h' => some (.row slot m.toNat, h')
        | none => none)
      | _ => none) else none
    | _ => none := rfl
theorem evW_trunc {slot : Nat} {x hi : O} : evW G t F h (.trunc slot x hi) = match rho G t x, rho G t hi with
    | .row id n, .s (.int _ i) => match rowAt h id n with
      | some (e, s, o, false, l) => if 0 ≤ i ∧ i ≤ l.length then (match alloc [(slot, .row e s o false (l.take i.toNat))] (h.set id (some .dead)) with
        | some h' => some (.row slot i.toNat, h')
        | none => none) else none
      | _ => none
    | .nilsl, .s (.int _ i) => if i = 0 then some (.nilsl, h) else none
    | _, _ => none := rfl
theorem evW_markb {x : O} : evW G t F h (.markb x) = match rho G t x with
    | .row id n => match rowAt h id n with
      | some (_, _, o, false, l) => some (.sl o l, h.set id (some .dead))
      | _ => none
    | _ => none := rfl
end

theorem binA_nn {op : BinOp} : binA .slice op .nilsl .nilsl = (negIf op true).map .bool := rfl
theorem binA_sn {op : BinOp} {o : Bool} {x : List C} {l : List (List C)} : binA .slice op (.sl o (x :: l)) .nilsl = (negIf op false).map .bool := rfl
theorem binA_sB {op : BinOp} {o : Bool} {x : UInt8} {l : List UInt8} : binA .slice op (.sl o (eB (x :: l))) .nilsl = (negIf op false).map .bool := rfl
theorem binA_en {op : BinOp} : binA .slice op .esl .nilsl = (negIf op false).map .bool := rfl
theorem binA_pn {op : BinOp} {i o : Nat} : binA .ptr op (.ptr i o) (.s (.pointer none)) = (negIf op false).map .bool := rfl
theorem binA_in {op : BinOp} {e t : Nat} {c : Bool} {v : AV} : binA (.iface e c) op (.ifc t v) (.s .nilIface) = (negIf op false).map .bool := rfl
theorem binA_arr {op : BinOp} {n : Nat} {a b : List AV} : binA (.arr n) op (.agg a) (.agg b) = if a.length = n ∧ b.length = n then (match ints a, ints b with
      | some a, some b => ((eqInts a b).bind (negIf op)).map .bool
      | _, _ => none) else none := rfl
theorem min_8 : min 8 64 = 8 := rfl
theorem pow_8 : (2 : Int) ^ 8 = 256 := rfl
theorem wb_u64 {b : UInt8} : IntKind.wrap .u64 (b.toNat : Int) = b.toNat := wrap_u64 (by have := b.toNat_lt; omega)
theorem wb_i64 {b : UInt8} : IntKind.wrap .i64 (b.toNat : Int) = b.toNat := wrap_i64 (by have := b.toNat_lt; omega)
theorem wb_u32 {b : UInt8} : IntKind.wrap .u32 (b.toNat : Int) = b.toNat := wrap_u32 (by have := b.toNat_lt; omega)
theorem wb_u8 {b : UInt8} : IntKind.wrap .u8 (b.toNat : Int) = b.toNat := wrap_u8 (by have := b.toNat_lt; omega)
theorem or_low {a x : Int} (h : (0 ≤ a ∧ a < 72057594037927936) ∧ 0 ≤ x ∧ x < 256) : orI .u64 (a * 256) x = a * 256 + x := by
  obtain ⟨⟨h0, h1⟩, h2, h3⟩ := h
  obtain ⟨n, rfl⟩ := Int.eq_ofNat_of_zero_le h0
  obtain ⟨m, rfl⟩ := Int.eq_ofNat_of_zero_le h2
  have e1 : (BitVec.ofInt 64 ((n : Int) * 256)).toNat = n * 256 := by
    rw [BitVec.toNat_ofInt]
    omega
  have e2 : (BitVec.ofInt 64 (m : Int)).toNat = m := by
    rw [BitVec.toNat_ofInt]
    omega
  have e3 : 256 * n ||| m = 256 * n + m := by
    have := Nat.two_pow_add_eq_or_of_lt (i := 8) (b := m) (by omega) n
    rw [show (2 : Nat) ^ 8 = 256 from rfl] at this
    exact this.symm
  unfold orI
  have hb : IntKind.bits .u64 = 64 := rfl
  rw [hb, BitVec.toNat_or, e1, e2, Nat.mul_comm, e3, wrap_u64 (by omega)]
  omega
theorem ofCs_one {o : Bool} {c : C} : ofCs o false [c] = some (ofC o c) := rfl
theorem ofCs_agg {o : Bool} {l : List C} : ofCs o true l = some (.agg (l.map (ofC o))) := rfl
theorem ofC_sc {o : Bool} {v : Value} : ofC o (.sc v) = .s v := rfl
theorem ofC_sl {o : Bool} {l : List (List C)} : ofC o (.sl l) = .sl o l := rfl
theorem cls_pr : (Cls.p = Cls.r) = False := by simp
theorem cls_wr : (Cls.w = Cls.r) = False := by simp
theorem cls_rr : (Cls.r = Cls.r) = True := by simp
/-- Whole numbers, as cells. -/
def eI (k : IntKind) (l : List Int) : List (List C) := l.map fun n => [.sc (.int k n)]
theorem eI_len {k : IntKind} {l : List Int} : (eI k l).length = l.length := by simp [eI]
theorem eI_sz {k : IntKind} {l : List Int} : szOk 1 (eI k l) = true := by simp [szOk, eI]
theorem eI_get {k : IntKind} {l : List Int} {i : Nat} (h : i < l.length) : (eI k l)[i]? = some [.sc (.int k (l.getD i 0))] := by
  simp [eI, List.getD, h]
/-- A list of slices of bytes. -/
def eBs (l : List (List UInt8)) : List (List C) := l.map fun b => [.sl (eB b)]
theorem eBs_len {l : List (List UInt8)} : (eBs l).length = l.length := by simp [eBs]
theorem eBs_sz {l : List (List UInt8)} : szOk 1 (eBs l) = true := by simp [szOk, eBs]
theorem eBs_get {l : List (List UInt8)} {i : Nat} (h : i < l.length) : (eBs l)[i]? = some [.sl (eB (l.getD i []))] := by
  simp [eBs, List.getD, h]
theorem drop_step {α : Type} {l : List α} {d : α} {i : Nat} (h : i < l.length) : l.drop i = l.getD i d :: l.drop (i + 1) := by
  rw [List.drop_eq_getElem_cons h]
  simp [List.getD, h]
theorem getD_mem' {α : Type} {l : List α} {d : α} {i : Nat} (h : i < l.length) : l.getD i d ∈ l := by
  rw [List.getD, List.getElem?_eq_getElem h]
  exact List.getElem_mem h
theorem getD_take {α : Type} {l : List α} {d : α} {i n : Nat} (h : i < n) : (l.take n).getD i d = l.getD i d := by
  simp [List.getD, List.getElem?_take, h]
theorem qK_some {outs : List Nat} {h : Heap} {rs : List AV} {os : List Obj} : qK outs h (some (rs, os)) = if os.length = outs.length then (match alloc (outs.zip (os.map (Obj.ren fun i => outs.getD i 0))) h with
    | some h' => some (finishCall (renL (fun i => outs.getD i 0) rs), h')
    | none => none) else none := rfl
theorem cK_some {ids outs : List Nat} {h : Heap} {rs : List AV} {os' : List Obj} : cK ids outs h (some (rs, os')) = if os'.length = ids.length + (fitO outs os'.length ids.length).length then (match alloc ((fitO outs os'.length ids.length).zip ((os'.drop ids.length).map (Obj.ren fun i => (ids ++ fitO outs os'.length ids.length).getD i 0))) (putAll ids ((os'.take ids.length).map (Obj.ren fun i => (ids ++ fitO outs os'.length ids.length).getD i 0)) h) with
    | some h' => some (finishCall (renL (fun i => (ids ++ fitO outs os'.length ids.length).getD i 0) rs), h')
    | none => none) else none := rfl
theorem evC_unf {tab : Nat → Option Fn} {G : Cf} {h : Heap} {f : Nat} {args : List AV} {outs ids : List Nat} : evC tab G h f args outs ids = if (closed h (refsL args) ids && decide ids.Nodup) = true then (match getAll h ids with
    | some os => cK ids outs h (Ev tab G f (cArgs tab f (ageL true (renL (fun i => ids.idxOf i) args))) (os.map fun o => (o.ren fun i => ids.idxOf i).age true))
    | none => none) else none := rfl
theorem e1_drop1 {b : UInt8} : (e1 b).drop 1 = [] := rfl
theorem e1_cell {b : UInt8} : [C.sc (.int .u8 (b.toNat : Int))] = e1 b := rfl
theorem toCs_u8 {n : Int} : toCs [.s (.int .u8 n)] = some [.sc (.int .u8 n)] := rfl
theorem rep_u8 {n : Nat} : List.replicate n [C.sc (.int .u8 0)] = eB (List.replicate n 0) := by
  simp [eB]
abbrev i64 (n : Int) : AV := .s (.int .i64 n)
abbrev u64 (n : Int) : AV := .s (.int .u64 n)
abbrev u32 (n : Int) : AV := .s (.int .u32 n)
abbrev u8 (n : Int) : AV := .s (.int .u8 n)
abbrev bo (b : Bool) : AV := .s (.bool b)

attribute [go_sem] app_done app_none app_ite app_seq app_skip app_reg0 app_reg app_condT app_cond app_block app_exit app_ret app_seq_n app_seq_e app_seq_r app_block_n app_block_e app_block_r app_ops_nil app_op app_opF app_opG opF_some opR_some opR_none opR_ite isB_bool b_bool isU_undef isU_bool isB_undef fin_n fin_r fin_none fin_ite again_n again_e again_r again_none again_ite
attribute [go_sem] ilt_t ilt_f ile_t ile_f ieq_t ieq_f nlt_t nlt_f nle_t nle_f neq_t neq_f bft btf bff btt beq_t beq_f
attribute [go_sem] v_add v_sub v_mul v_quo v_rem v_or v_xor v_and v_andNot v_shl v_shr v_eql v_neq v_lss v_leq v_gtr v_geq v_str v_beql v_bneq v_ifc v_ifc_nr v_ifc_nl v_ifc_nn v_ptr eqIface_int eqIface_ne n_eql n_neq binA_s s_eql s_neq s_lss s_leq s_gtr s_geq
attribute [go_sem] wrap_u64 wrap_u8 wrap_u32 wrap_i64 tdiv_nn tmod_nn
attribute [go_sem] cells_undef cellOk_undef canon_undef frz_undef canon1_undef frz1_undef cells_s cellOk_s toC_s canon_s frz_s canon1_s frz1_s cells_sl cellOk_sl toC_sl canon_sl frz_sl canon1_sl frz1_sl elems_sl srcE_sl cells_nilsl cellOk_nilsl toC_nilsl canon_nilsl frz_nilsl canon1_nilsl frz1_nilsl elems_nilsl srcE_nilsl cells_esl cellOk_esl canon_esl frz_esl canon1_esl frz1_esl elems_esl srcE_esl cells_row cellOk_row canon_row canon1_row cells_ptr cellOk_ptr canon_ptr frz_ptr canon1_ptr frz1_ptr cells_eptr cellOk_eptr canon_eptr frz_eptr canon1_eptr frz1_eptr cells_daddr cellOk_daddr canon_daddr frz_daddr canon1_daddr frz1_daddr cells_agg cellOk_agg canon_agg frz_agg canon1_agg frz1_agg cells_tup cellOk_tup canon_tup frz_tup canon1_tup frz1_tup cells_ifc cellOk_ifc canon_ifc frz_ifc canon1_ifc frz1_ifc cells_clos cellOk_clos canon_clos frz_clos canon1_clos frz1_clos frz_row frz1_row elems_row srcE_row srcE_str srcE_slA evW_app' evW_store evW_call evW_callv callvK_clos evW_appz evW_trunc evW_markb appK storeK eB_nil
attribute [go_sem] min_8 pow_8 wb_u64 wb_i64 wb_u32 wb_u8
attribute [go_sem] List.nodup_cons List.nodup_nil List.mem_cons List.not_mem_nil or_false or_self
attribute [go_sem] app_P_nil app_Pop app_PopF app_PopG footF fp okF disj disjL List.flatMap_nil List.flatMap_cons
attribute [go_sem] cls_pr cls_wr cls_rr
attribute [go_sem] beq_iff_eq
attribute [go_sem] eI_len eI_sz eI_get eBs_len eBs_sz eBs_get
attribute [go_sem] ofCs_one ofCs_agg ofC_sc ofC_sl
attribute [go_sem] List.take_length List.drop_length
attribute [go_sem] binA_nn binA_sn binA_sB binA_en binA_pn binA_in binA_arr
attribute [go_sem] eB_set szOk_nil szOk_cons List.append_assoc sc_wrap sc_u8 sc_toNat byt_toNat eB_snoc eB_app e1_one e1_cons e1_len ofCs_e1 e1_take slA_nil slA_cons slA_eB slA_refs slA_ren slA_age slA_elems slA_frz slA_frz1 slA_canon slA_canon1 slA_toC slA_cells slA_cellOk
attribute [go_sem] eB_len eB_sz bytesOf_eB eB_take eB_drop eB_get toList_mk data_mk size_mk
attribute [go_sem] fitO List.take_succ_cons List.take_zero List.take_nil
attribute [go_sem] padR padR_ite cntT Nat.sub_self
attribute [go_sem] ev1 evP evR Ev.start Ev.finish resOf frzRes frzC frzL frzTs Op1.cls alloc rho ofV ofV1 setD closed reach reachN refsL AV.refs getAll renL AV.ren Ev.getO refsO finishCall fillA partsA partsE toCs isOldParts fillE cOf Ev.rowAt clean keepT prune ageL AV.age Obj.age Obj.ren Obj.refs isOldL AV.isOld unA putAll bound bounds
attribute [go_sem] List.getD_cons_succ List.getD_cons_zero List.set_cons_succ List.set_cons_zero List.replicate_succ List.replicate_zero List.length_cons List.length_nil List.cons_append List.nil_append List.append_nil List.all_nil List.all_cons List.map_nil List.map_cons List.range'_zero List.range'_succ List.filter_nil List.headD_nil List.tail_nil List.headD_cons List.tail_cons List.getElem?_cons_zero List.getElem?_cons_succ List.getElem?_nil List.isEmpty_nil List.isEmpty_cons List.drop_zero List.take_zero List.drop_succ_cons List.take_succ_cons List.take_nil List.drop_nil List.filter_cons List.contains_nil List.contains_cons List.all_append List.zip_nil_left List.zip_nil_right List.zip_cons_cons List.any_nil List.any_cons List.idxOf_nil List.idxOf_cons List.mapIdx_cons List.mapIdx_nil List.elem_nil List.length_append List.length_map
attribute [go_sem] if_true if_false if_pos if_neg ite_true ite_false Bool.false_eq_true Bool.true_eq_false Bool.and_true Bool.true_and Bool.and_false Bool.false_and Bool.or_false Bool.or_true Bool.false_or Bool.true_or Bool.not_true Bool.not_false Bool.not_eq_true Option.map_some Option.map_none Option.bind_some Option.getD_some true_and and_true and_self and_false false_and decide_true decide_false decide_eq_true_eq beq_self_eq_true Option.isSome_some Option.isSome_none Nat.zero_add Nat.add_zero Nat.mul_one Int.cast_ofNat_Int Int.natCast_zero Int.natCast_one Int.natCast_add Nat.lt_add_one Go.Value.oneCell' not_true_eq_false not_false_eq_true cond_true cond_false Bool.cond_false_right Bool.cond_true_left Int.toNat_natCast ge_iff_le gt_iff_lt Bool.and_eq_true Bool.or_eq_true Bool.not_eq_true' decide_eq_false_iff_not Bool.and_self

attribute [go_sem] canonA evCall_C evC_unf qK_some qK_none qK_ite cK_some cK_none cK_ite
attribute [go_sem ↓ high] op_qcall
attribute [go_sem] e1_drop1 rep_u8

end Go.Ev
