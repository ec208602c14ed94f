/-
  What the two functions of a round, and of a turn, come to.
-/
import Derived.Test.YtfbipgidlecmkaaShaIr
set_option linter.unusedSimpArgs false
namespace Go.Proofs.Ytfbipgidlecmkaa
open Go.Ev

theorem G0_gf : G0.gf = true := rfl
theorem shl_ev (k : IntKind) (x y : Int) (h : 0 ≤ y) : shiftI k .shl x y = some (k.wrap (x * 2 ^ (min y.toNat k.bits))) := by
  simp only [shiftI]; rw [if_neg (by omega)]
theorem shr_ev (k : IntKind) (x y : Int) (h : 0 ≤ y) : shiftI k .shr x y = some (x.fdiv (2 ^ (min y.toNat k.bits))) := by
  simp only [shiftI]; rw [if_neg (by omega)]
def orI (k : IntKind) (x y : Int) : Int := k.wrap (BitVec.ofInt k.bits x ||| BitVec.ofInt k.bits y).toNat
theorem or_ev (k : IntKind) (x y : Int) : arithI k .or x y = some (orI k x y) := rfl
def xorI (k : IntKind) (x y : Int) : Int := k.wrap (BitVec.ofInt k.bits x ^^^ BitVec.ofInt k.bits y).toNat
theorem xor_ev (k : IntKind) (x y : Int) : arithI k .xor x y = some (xorI k x y) := rfl
def andI (k : IntKind) (x y : Int) : Int := k.wrap (BitVec.ofInt k.bits x &&& BitVec.ofInt k.bits y).toNat
theorem and_ev (k : IntKind) (x y : Int) : arithI k .and x y = some (andI k x y) := rfl
theorem add_ev (k : IntKind) (x y : Int) : arithI k .add x y = some (k.wrap (x + y)) := rfl
theorem sub_ev (k : IntKind) (x y : Int) : arithI k .sub x y = some (k.wrap (x - y)) := rfl
theorem orI_comm (k : IntKind) (x y : Int) : orI k x y = orI k y x := by simp only [orI, BitVec.or_comm]

def ror (x n : Int) : Int := orI .u32 (x.fdiv (2 ^ (min n.toNat 32))) (IntKind.wrap .u32 (x * 2 ^ (min (32 - n).toNat 32)))

theorem wrap_i64 (n : Int) (h0 : 0 ≤ n) (h1 : n ≤ 2 ^ 62) : IntKind.wrap .i64 n = n := by
  simp [IntKind.wrap, IntKind.signed, IntKind.bits]; omega

theorem turn_ev (x : Int) (n : Int) (h0 : 0 ≤ n) (h1 : n ≤ 32) : Ev tab G0 45 [.s (.int .u32 x), .s (.int .i64 n)] [] = some ([.s (.int .u32 (ror x n))], []) := by
  apply Ev_of
  have e1 := shr_ev .u32 x n h0
  have e2 := shl_ev .u32 x (32 - n) (by omega)
  have e3 := wrap_i64 (32 - n) (by omega) (by omega)
  simp only [tab45, ir45, e1, e2, e3, or_ev, sub_ev, evFn, evIR, evOps, evOp, ev1, evP, evR, evW, Ev.start, Ev.finish, resOf, frzRes, frz, frz1, okPairs, guardOf, frzTs, Op1.cls, alloc, rho, ofV, ofV1, setD, closed, reach, reachN, refsL, AV.refs, getAll, renL, AV.ren, AV.cells, AV.cellOk, Ev.getO, refsO, binA, binV, finishCall, List.getD_cons_succ, List.getD_cons_zero, List.set_cons_succ, List.set_cons_zero, List.replicate_succ, List.replicate_zero, List.length_cons, List.length_nil, List.cons_append, List.nil_append, List.append_nil, List.all_nil, List.all_cons, List.map_nil, List.map_cons, List.range'_zero, List.filter_nil, List.headD_nil, List.tail_nil, List.headD_cons, if_true, if_false, Bool.false_eq_true, Bool.and_true, Bool.true_and, Option.map_some, Option.map_none, Nat.reduceSub, Nat.reduceAdd, Nat.zero_add, Nat.add_zero, reduceIte, Bool.or_false, Bool.or_true, Bool.false_or, Bool.true_or, Go.Value.oneCell', true_and, and_true, and_self, List.getElem?_cons_zero, List.getElem?_cons_succ, List.getElem?_nil, List.isEmpty_nil, Nat.reduceLeDiff, Nat.reduceMul, List.drop_zero, List.take_zero, List.drop_succ_cons, List.take_succ_cons, List.take_nil, List.drop_nil, isOldL, AV.isOld, ageL, AV.age, Int.cast_ofNat_Int, Int.natCast_zero, Int.natCast_one, Int.reduceLE, Int.reduceLT, Int.reduceToNat, fillA, partsA, Obj.refs, List.filter_cons, List.contains_nil, List.contains_cons, Bool.and_false, decide_true, decide_false, List.all_append, List.zip_nil_left, List.zip_nil_right, List.zip_cons_cons, Bool.not_true, Bool.not_false, List.any_nil, List.any_cons, Nat.reduceBEq, Nat.reduceEqDiff, beq_self_eq_true, List.idxOf_nil, G0_gf]
  rfl

theorem rot_ev (x m M n c : Int) (hm : IntKind.wrap .u64 m = M) (hc : andI .u64 M 31 = c) (h3 : IntKind.wrap .u64 (32 - c) = n) (h4 : 32 - n = c) (h0 : 0 ≤ n) (h1 : 0 ≤ c) : Ev tab G0 44 [.s (.int .u32 x), .s (.int .i64 m)] [] = some ([.s (.int .u32 (ror x n))], []) := by
  apply Ev_of
  have e1 := shr_ev .u32 x n h0
  have e2 := shl_ev .u32 x c h1
  simp only [tab44, ir44, hm, hc, e1, e2, h3, or_ev, sub_ev, and_ev, evFn, evIR, evOps, evOp, ev1, evP, evR, evW, Ev.start, Ev.finish, resOf, frzRes, frz, frz1, okPairs, guardOf, frzTs, Op1.cls, alloc, rho, ofV, ofV1, setD, closed, reach, reachN, refsL, AV.refs, getAll, renL, AV.ren, AV.cells, AV.cellOk, Ev.getO, refsO, binA, binV, finishCall, List.getD_cons_succ, List.getD_cons_zero, List.set_cons_succ, List.set_cons_zero, List.replicate_succ, List.replicate_zero, List.length_cons, List.length_nil, List.cons_append, List.nil_append, List.append_nil, List.all_nil, List.all_cons, List.map_nil, List.map_cons, List.range'_zero, List.filter_nil, List.headD_nil, List.tail_nil, List.headD_cons, if_true, if_false, Bool.false_eq_true, Bool.and_true, Bool.true_and, Option.map_some, Option.map_none, Nat.reduceSub, Nat.reduceAdd, Nat.zero_add, Nat.add_zero, reduceIte, Bool.or_false, Bool.or_true, Bool.false_or, Bool.true_or, Go.Value.oneCell', true_and, and_true, and_self, List.getElem?_cons_zero, List.getElem?_cons_succ, List.getElem?_nil, List.isEmpty_nil, Nat.reduceLeDiff, Nat.reduceMul, List.drop_zero, List.take_zero, List.drop_succ_cons, List.take_succ_cons, List.take_nil, List.drop_nil, isOldL, AV.isOld, ageL, AV.age, Int.cast_ofNat_Int, Int.natCast_zero, Int.natCast_one, Int.reduceLE, Int.reduceLT, Int.reduceToNat, fillA, partsA, Obj.refs, List.filter_cons, List.contains_nil, List.contains_cons, Bool.and_false, decide_true, decide_false, List.all_append, List.zip_nil_left, List.zip_nil_right, List.zip_cons_cons, Bool.not_true, Bool.not_false, List.any_nil, List.any_cons, Nat.reduceBEq, Nat.reduceEqDiff, beq_self_eq_true, List.idxOf_nil, G0_gf]
  rw [ror, h4, orI_comm]
  rfl
theorem rot6 (x : Int) : Ev tab G0 44 [.s (.int .u32 x), .s (.int .i64 (-6))] [] = some ([.s (.int .u32 (ror x 6))], []) := rot_ev x (-6) 18446744073709551610 6 26 (by decide) (by decide) (by decide) (by decide) (by decide) (by decide)
theorem rot11 (x : Int) : Ev tab G0 44 [.s (.int .u32 x), .s (.int .i64 (-11))] [] = some ([.s (.int .u32 (ror x 11))], []) := rot_ev x (-11) 18446744073709551605 11 21 (by decide) (by decide) (by decide) (by decide) (by decide) (by decide)
theorem rot25 (x : Int) : Ev tab G0 44 [.s (.int .u32 x), .s (.int .i64 (-25))] [] = some ([.s (.int .u32 (ror x 25))], []) := rot_ev x (-25) 18446744073709551591 25 7 (by decide) (by decide) (by decide) (by decide) (by decide) (by decide)
theorem rot2 (x : Int) : Ev tab G0 44 [.s (.int .u32 x), .s (.int .i64 (-2))] [] = some ([.s (.int .u32 (ror x 2))], []) := rot_ev x (-2) 18446744073709551614 2 30 (by decide) (by decide) (by decide) (by decide) (by decide) (by decide)
theorem rot13 (x : Int) : Ev tab G0 44 [.s (.int .u32 x), .s (.int .i64 (-13))] [] = some ([.s (.int .u32 (ror x 13))], []) := rot_ev x (-13) 18446744073709551603 13 19 (by decide) (by decide) (by decide) (by decide) (by decide) (by decide)
theorem rot22 (x : Int) : Ev tab G0 44 [.s (.int .u32 x), .s (.int .i64 (-22))] [] = some ([.s (.int .u32 (ror x 22))], []) := rot_ev x (-22) 18446744073709551594 22 10 (by decide) (by decide) (by decide) (by decide) (by decide) (by decide)
theorem turn6 (x : Int) : Ev tab G0 45 [.s (.int .u32 x), .s (.int .i64 6)] [] = some ([.s (.int .u32 (ror x 6))], []) := turn_ev x 6 (by decide) (by decide)
theorem turn11 (x : Int) : Ev tab G0 45 [.s (.int .u32 x), .s (.int .i64 11)] [] = some ([.s (.int .u32 (ror x 11))], []) := turn_ev x 11 (by decide) (by decide)
theorem turn25 (x : Int) : Ev tab G0 45 [.s (.int .u32 x), .s (.int .i64 25)] [] = some ([.s (.int .u32 (ror x 25))], []) := turn_ev x 25 (by decide) (by decide)
theorem turn2 (x : Int) : Ev tab G0 45 [.s (.int .u32 x), .s (.int .i64 2)] [] = some ([.s (.int .u32 (ror x 2))], []) := turn_ev x 2 (by decide) (by decide)
theorem turn13 (x : Int) : Ev tab G0 45 [.s (.int .u32 x), .s (.int .i64 13)] [] = some ([.s (.int .u32 (ror x 13))], []) := turn_ev x 13 (by decide) (by decide)
theorem turn22 (x : Int) : Ev tab G0 45 [.s (.int .u32 x), .s (.int .i64 22)] [] = some ([.s (.int .u32 (ror x 22))], []) := turn_ev x 22 (by decide) (by decide)

theorem not_ev (n : Int) : unA .xor (.s (.int .u32 n)) = some (.int .u32 (xorI .u32 4294967295 n)) := rfl
def add32 (x y : Int) : Int := IntKind.wrap .u32 (x + y)
theorem add32_ev (x y : Int) : arithI .u32 .add x y = some (add32 x y) := rfl
def one (e f g h k w : Int) : Int := add32 (add32 (add32 (add32 h (xorI .u32 (xorI .u32 (ror e 6) (ror e 11)) (ror e 25))) (xorI .u32 (andI .u32 e f) (andI .u32 (xorI .u32 4294967295 e) g))) k) w
def two (a b c : Int) : Int := add32 (xorI .u32 (xorI .u32 (ror a 2) (ror a 13)) (ror a 22)) (xorI .u32 (xorI .u32 (andI .u32 a b) (andI .u32 a c)) (andI .u32 b c))
def u (n : Int) : AV := .s (.int .u32 n)

theorem round_ev (a b c d e f g h k w : Int) : Ev tab G0 14 [.agg [.s (.int .u32 a), .s (.int .u32 b), .s (.int .u32 c), .s (.int .u32 d), .s (.int .u32 e), .s (.int .u32 f), .s (.int .u32 g), .s (.int .u32 h)], .s (.int .u32 k), .s (.int .u32 w)] [] =
      some ([.agg [u (add32 (one e f g h k w) (two a b c)), u a, u b, u c, u (add32 d (one e f g h k w)), u e, u f, u g]], []) := by
  apply Ev_of
  simp only [tab14, ir14, rot6, rot11, rot25, rot2, rot13, rot22, or_ev, sub_ev, and_ev, add32_ev, xor_ev, not_ev, evFn, evIR, evOps, evOp, ev1, evP, evR, evW, Ev.start, Ev.finish, resOf, frzRes, frz, frz1, okPairs, guardOf, frzTs, Op1.cls, alloc, rho, ofV, ofV1, setD, closed, reach, reachN, refsL, AV.refs, getAll, renL, AV.ren, AV.cells, AV.cellOk, Ev.getO, refsO, binA, binV, finishCall, List.getD_cons_succ, List.getD_cons_zero, List.set_cons_succ, List.set_cons_zero, List.replicate_succ, List.replicate_zero, List.length_cons, List.length_nil, List.cons_append, List.nil_append, List.append_nil, List.all_nil, List.all_cons, List.map_nil, List.map_cons, List.range'_zero, List.filter_nil, List.headD_nil, List.tail_nil, List.headD_cons, if_true, if_false, Bool.false_eq_true, Bool.and_true, Bool.true_and, Option.map_some, Option.map_none, Nat.reduceSub, Nat.reduceAdd, Nat.zero_add, Nat.add_zero, reduceIte, Bool.or_false, Bool.or_true, Bool.false_or, Bool.true_or, Go.Value.oneCell', true_and, and_true, and_self, List.getElem?_cons_zero, List.getElem?_cons_succ, List.getElem?_nil, List.isEmpty_nil, Nat.reduceLeDiff, Nat.reduceMul, List.drop_zero, List.take_zero, List.drop_succ_cons, List.take_succ_cons, List.take_nil, List.drop_nil, isOldL, AV.isOld, ageL, AV.age, Int.cast_ofNat_Int, Int.natCast_zero, Int.natCast_one, Int.reduceLE, Int.reduceLT, Int.reduceToNat, fillA, partsA, Obj.refs, List.filter_cons, List.contains_nil, List.contains_cons, Bool.and_false, decide_true, decide_false, List.all_append, List.zip_nil_left, List.zip_nil_right, List.zip_cons_cons, Bool.not_true, Bool.not_false, List.any_nil, List.any_cons, Nat.reduceBEq, Nat.reduceEqDiff, beq_self_eq_true, List.idxOf_nil, G0_gf]
  rfl
theorem refRound_ev (a b c d e f g h k w : Int) : Ev tab G0 15 [.agg [.s (.int .u32 a), .s (.int .u32 b), .s (.int .u32 c), .s (.int .u32 d), .s (.int .u32 e), .s (.int .u32 f), .s (.int .u32 g), .s (.int .u32 h)], .s (.int .u32 k), .s (.int .u32 w)] [] =
      some ([.agg [u (add32 (one e f g h k w) (two a b c)), u a, u b, u c, u (add32 d (one e f g h k w)), u e, u f, u g]], []) := by
  apply Ev_of
  simp only [tab15, ir15, turn6, turn11, turn25, turn2, turn13, turn22, or_ev, sub_ev, and_ev, add32_ev, xor_ev, not_ev, evFn, evIR, evOps, evOp, ev1, evP, evR, evW, Ev.start, Ev.finish, resOf, frzRes, frz, frz1, okPairs, guardOf, frzTs, Op1.cls, alloc, rho, ofV, ofV1, setD, closed, reach, reachN, refsL, AV.refs, getAll, renL, AV.ren, AV.cells, AV.cellOk, Ev.getO, refsO, binA, binV, finishCall, List.getD_cons_succ, List.getD_cons_zero, List.set_cons_succ, List.set_cons_zero, List.replicate_succ, List.replicate_zero, List.length_cons, List.length_nil, List.cons_append, List.nil_append, List.append_nil, List.all_nil, List.all_cons, List.map_nil, List.map_cons, List.range'_zero, List.filter_nil, List.headD_nil, List.tail_nil, List.headD_cons, if_true, if_false, Bool.false_eq_true, Bool.and_true, Bool.true_and, Option.map_some, Option.map_none, Nat.reduceSub, Nat.reduceAdd, Nat.zero_add, Nat.add_zero, reduceIte, Bool.or_false, Bool.or_true, Bool.false_or, Bool.true_or, Go.Value.oneCell', true_and, and_true, and_self, List.getElem?_cons_zero, List.getElem?_cons_succ, List.getElem?_nil, List.isEmpty_nil, Nat.reduceLeDiff, Nat.reduceMul, List.drop_zero, List.take_zero, List.drop_succ_cons, List.take_succ_cons, List.take_nil, List.drop_nil, isOldL, AV.isOld, ageL, AV.age, Int.cast_ofNat_Int, Int.natCast_zero, Int.natCast_one, Int.reduceLE, Int.reduceLT, Int.reduceToNat, fillA, partsA, Obj.refs, List.filter_cons, List.contains_nil, List.contains_cons, Bool.and_false, decide_true, decide_false, List.all_append, List.zip_nil_left, List.zip_nil_right, List.zip_cons_cons, Bool.not_true, Bool.not_false, List.any_nil, List.any_cons, Nat.reduceBEq, Nat.reduceEqDiff, beq_self_eq_true, List.idxOf_nil, G0_gf]
  rfl
end Go.Proofs.Ytfbipgidlecmkaa
