/-
  The law of a round comes to true.
-/
import Derived.Test.YtfbipgidlecmkaaShaA
set_option linter.unusedSimpArgs false
namespace Go.Proofs.Ytfbipgidlecmkaa
open Go.Ev
theorem first_one : add32 (one 0 0 0 0 1 0) (two 0 0 0) = 1 := by decide
theorem law_rounds (a b c d e f g h k w : Int) : Ev tab G0 3 [.agg [.s (.int .u32 a), .s (.int .u32 b), .s (.int .u32 c), .s (.int .u32 d), .s (.int .u32 e), .s (.int .u32 f), .s (.int .u32 g), .s (.int .u32 h)], .s (.int .u32 k), .s (.int .u32 w)] [] =
      some ([.s (.bool true)], []) := by
  apply Ev_of
  simp only [tab3, ir3, round_ev, refRound_ev, u, first_one, cmpI, ints, eqInts, negIf, Option.bind_some, evFn, evIR, evOps, evOp, ev1, evP, evR, evW, Ev.start, Ev.finish, resOf, frzRes, frz, frz1, okPairs, guardOf, frzTs, Op1.cls, alloc, rho, ofV, ofV1, setD, closed, reach, reachN, refsL, AV.refs, getAll, renL, AV.ren, AV.cells, AV.cellOk, Ev.getO, refsO, binA, binV, finishCall, List.getD_cons_succ, List.getD_cons_zero, List.set_cons_succ, List.set_cons_zero, List.replicate_succ, List.replicate_zero, List.length_cons, List.length_nil, List.cons_append, List.nil_append, List.append_nil, List.all_nil, List.all_cons, List.map_nil, List.map_cons, List.range'_zero, List.filter_nil, List.headD_nil, List.tail_nil, List.headD_cons, if_true, if_false, Bool.false_eq_true, Bool.and_true, Bool.true_and, Option.map_some, Option.map_none, Nat.reduceSub, Nat.reduceAdd, Nat.zero_add, Nat.add_zero, reduceIte, Bool.or_false, Bool.or_true, Bool.false_or, Bool.true_or, Go.Value.oneCell', true_and, and_true, and_self, List.getElem?_cons_zero, List.getElem?_cons_succ, List.getElem?_nil, List.isEmpty_nil, Nat.reduceLeDiff, Nat.reduceMul, List.drop_zero, List.take_zero, List.drop_succ_cons, List.take_succ_cons, List.take_nil, List.drop_nil, isOldL, AV.isOld, ageL, AV.age, Int.cast_ofNat_Int, Int.natCast_zero, Int.natCast_one, Int.reduceLE, Int.reduceLT, Int.reduceToNat, fillA, partsA, Obj.refs, List.filter_cons, List.contains_nil, List.contains_cons, Bool.and_false, decide_true, decide_false, List.all_append, List.zip_nil_left, List.zip_nil_right, List.zip_cons_cons, Bool.not_true, Bool.not_false, List.any_nil, List.any_cons, Nat.reduceBEq, Nat.reduceEqDiff, beq_self_eq_true, List.idxOf_nil, G0_gf]
end Go.Proofs.Ytfbipgidlecmkaa
