/-
  The law of any number's bytes comes to true.
-/
import Derived.Test.YtfbipgidlecmkaaNumB
set_option linter.unusedSimpArgs false
set_option linter.unusedVariables false
namespace Go.Proofs.Ytfbipgidlecmkaa
open Go.Ev
theorem bytesOf_be : ∀ (n : Nat) (v : Int) (l : List (List C)), (∃ bs, bytesOf l = some bs) → ∃ bs, bytesOf (be n v l) = some bs
  | 0, _, _, h => h
  | n + 1, v, l, h => by
    simp only [be]
    split
    · exact h
    · obtain ⟨bs, hb⟩ := h
      exact bytesOf_be n _ _ ⟨UInt8.ofNat (v % 256).toNat :: bs, by simp only [by1, bytesOf, hb]⟩
theorem bytesOf_num (v : Int) : ∃ bs, bytesOf (numB v) = some bs := by
  rw [numB]
  split
  · exact ⟨_, rfl⟩
  · obtain ⟨bs, hb⟩ := bytesOf_be 8 v [] ⟨[], rfl⟩
    exact ⟨UInt8.ofNat (247 + ((be 8 v []).length : Int)).toNat :: bs, by simp only [by1, bytesOf, hb]⟩
theorem law_numbers (v : Int) (h0 : 0 ≤ v) (h2 : v < 18446744073709551616) : Ev tab G0 5 [.s (.int .u64 v)] [] = some ([.s (.bool true)], []) := by
  apply Ev_of
  obtain ⟨bs, hb⟩ := bytesOf_num v
  have e1 := num_ev v h0 h2
  have e2 := refNum v h0 h2
  have e3 := num_ev 248 (by decide) (by decide)
  have e4 : bytesOf (numB 248) = some [248, 248] := by decide
  simp only [tab5, ir5, e1, e2, e3, e4, hb, strOp, evFn, evIR_skip, evIR_exit, evIR_ret, evIR_reg, evIR_seq, evIR_cond, evIR_block, evIR_loop, evOps, evOp, ev1, evP, evR, evW, Ev.start, Ev.finish, resOf, frzRes, frz, frz1, okPairs, guardOf, frzTs, Op1.cls, alloc, rho, ofV, ofV1, setD, closed, reach, reachN, refsL, AV.refs, getAll, renL, AV.ren, AV.cells, AV.cellOk, Ev.getO, refsO, binA, binV, finishCall, List.getD_cons_succ, List.getD_cons_zero, List.set_cons_succ, List.set_cons_zero, List.replicate_succ, List.replicate_zero, List.length_cons, List.length_nil, List.cons_append, List.nil_append, List.append_nil, List.all_nil, List.all_cons, List.map_nil, List.map_cons, List.range'_zero, List.filter_nil, List.headD_nil, List.tail_nil, List.headD_cons, if_true, if_false, Bool.false_eq_true, Bool.and_true, Bool.true_and, Option.map_some, Option.map_none, Nat.reduceSub, Nat.reduceAdd, Nat.zero_add, Nat.add_zero, reduceIte, Bool.or_false, Bool.or_true, Bool.false_or, Bool.true_or, Go.Value.oneCell', true_and, and_true, and_self, List.getElem?_cons_zero, List.getElem?_cons_succ, List.getElem?_nil, List.isEmpty_nil, Nat.reduceLeDiff, Nat.reduceMul, List.drop_zero, List.take_zero, List.drop_succ_cons, List.take_succ_cons, List.take_nil, List.drop_nil, isOldL, AV.isOld, ageL, AV.age, Int.cast_ofNat_Int, Int.natCast_zero, Int.natCast_one, Int.reduceLE, Int.reduceLT, Int.reduceToNat, fillA, partsA, Obj.refs, List.filter_cons, List.contains_nil, List.contains_cons, Bool.and_false, decide_true, decide_false, List.all_append, List.zip_nil_left, List.zip_nil_right, List.zip_cons_cons, Bool.not_true, Bool.not_false, List.any_nil, List.any_cons, Nat.reduceBEq, Nat.reduceEqDiff, beq_self_eq_true, List.idxOf_nil, G0_gf, bft, btf, bff, partsE, toCs, AV.toC, isOldParts, fillE, cOf, szOk, elems, Ev.rowAt, clean, keepT, prune, List.mapIdx_cons, List.mapIdx_nil, Nat.reduceLT, Nat.lt_add_one, Bool.not_eq_true, and_false, false_and, ite_true, ite_false, List.isEmpty_cons, decide_eq_true_eq, Nat.mul_one, reachN, List.elem_nil, Option.isSome_some, Option.isSome_none, List.range'_succ]
end Go.Proofs.Ytfbipgidlecmkaa
