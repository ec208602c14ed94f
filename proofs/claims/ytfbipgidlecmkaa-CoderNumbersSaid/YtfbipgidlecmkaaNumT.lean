/-
  The document's Number, by the evaluator.
-/
import Derived.Test.YtfbipgidlecmkaaR1Ir
set_option linter.unusedSimpArgs false
set_option linter.unusedVariables false
namespace Go.Proofs.Ytfbipgidlecmkaa
open Go.Ev
def by1 (n : Int) : List C := [.sc (.int .u8 n)]
/-- The rounds of the document's Number. -/
def be : Nat → Int → List (List C) → List (List C)
  | 0, _, l => l
  | n + 1, v, l => if v = 0 then l else be n (v / 256) (by1 (v % 256) :: l)

def slOf : List (List C) → AV
  | [] => .nilsl
  | l => .sl false l

def st19 (v : Int) (a : AV) : St := ⟨[.s (.int .u64 v), .undef, .undef, a, .undef, .undef, .undef, .undef, .undef, .undef, .undef, .undef, .undef, .undef, .undef, .undef, .undef, .undef, .undef, .undef, .undef, .undef, .undef, .undef, .undef, .undef], [none, none, none, none]⟩

theorem round19 (v : Int) (h0 : 0 < v) (h2 : v < 18446744073709551616) (l : List (List C)) (h3 : (l.all fun e => e.length == 1) = true) (h4 : l.length < 100) (st : St) (hst : clean 4 ir19k0 st = st19 v (slOf l)) : loopStep tab G0 4 ir19k0 ir19b0 st = some (.normal, st19 (v / 256) (slOf (by1 (v % 256) :: l))) := by
  have e1 : decide (v > 0) = true := by simpa using h0
  have e2 := rem_ev .u64 v 256 (by decide)
  have e3 := quo_ev .u64 v 256 (by decide)
  have e4 : v.tmod 256 = v % 256 := Int.tmod_eq_emod_of_nonneg (by omega)
  have e5 : v.tdiv 256 = v / 256 := Int.tdiv_eq_ediv_of_nonneg (by omega)
  have e6 : IntKind.wrap .u8 (v % 256) = v % 256 := wrap_u8 (by omega) (by omega)
  have e7 : IntKind.wrap .u64 (v / 256) = v / 256 := wrap_u64 (by omega) (by omega)
  have e8 : 1 + l.length ≤ 140737488355328 := by omega
  simp only [loopStep, hst]
  cases l with
  | nil => simp only [ir19b0, ir19j0, ir19j1, st19, slOf, by1, cmpI, e1, e2, e3, e4, e5, e6, e7, evFn, evIR_skip, evIR_exit, evIR_ret, evIR_reg, evIR_seq, evIR_cond, evIR_block, evIR_loop, evOps, evOp, ev1, evP, evR, evW, Ev.start, Ev.finish, resOf, frzRes, frz, frz1, okPairs, guardOf, frzTs, Op1.cls, alloc, rho, ofV, ofV1, setD, closed, reach, reachN, refsL, AV.refs, getAll, renL, AV.ren, AV.cells, AV.cellOk, Ev.getO, refsO, binA, binV, finishCall, List.getD_cons_succ, List.getD_cons_zero, List.set_cons_succ, List.set_cons_zero, List.replicate_succ, List.replicate_zero, List.length_cons, List.length_nil, List.cons_append, List.nil_append, List.append_nil, List.all_nil, List.all_cons, List.map_nil, List.map_cons, List.range'_zero, List.filter_nil, List.headD_nil, List.tail_nil, List.headD_cons, if_true, if_false, Bool.false_eq_true, Bool.and_true, Bool.true_and, Option.map_some, Option.map_none, Nat.reduceSub, Nat.reduceAdd, Nat.zero_add, Nat.add_zero, reduceIte, Bool.or_false, Bool.or_true, Bool.false_or, Bool.true_or, Go.Value.oneCell', true_and, and_true, and_self, List.getElem?_cons_zero, List.getElem?_cons_succ, List.getElem?_nil, List.isEmpty_nil, Nat.reduceLeDiff, Nat.reduceMul, List.drop_zero, List.take_zero, List.drop_succ_cons, List.take_succ_cons, List.take_nil, List.drop_nil, isOldL, AV.isOld, ageL, AV.age, Int.cast_ofNat_Int, Int.natCast_zero, Int.natCast_one, Int.reduceLE, Int.reduceLT, Int.reduceToNat, fillA, partsA, Obj.refs, List.filter_cons, List.contains_nil, List.contains_cons, Bool.and_false, decide_true, decide_false, List.all_append, List.zip_nil_left, List.zip_nil_right, List.zip_cons_cons, Bool.not_true, Bool.not_false, List.any_nil, List.any_cons, Nat.reduceBEq, Nat.reduceEqDiff, beq_self_eq_true, List.idxOf_nil, G0_gf, bft, btf, bff, partsE, toCs, AV.toC, isOldParts, fillE, cOf, szOk, elems, Ev.rowAt, clean, keepT, prune, List.mapIdx_cons, List.mapIdx_nil, Nat.reduceLT, Nat.lt_add_one, Bool.not_eq_true, and_false, false_and, ite_true, ite_false, List.isEmpty_cons, decide_eq_true_eq, Nat.mul_one, reachN, List.elem_nil, Option.isSome_some, Option.isSome_none, List.range'_succ]
  | cons x l =>
    generalize hq : x :: l = q at *
    have hs : slOf q = .sl false q := by subst hq; rfl
    simp only [ir19b0, ir19j0, ir19j1, st19, hs, by1, cmpI, e1, e2, e3, e4, e5, e6, e7, h3, e8, evFn, evIR_skip, evIR_exit, evIR_ret, evIR_reg, evIR_seq, evIR_cond, evIR_block, evIR_loop, evOps, evOp, ev1, evP, evR, evW, Ev.start, Ev.finish, resOf, frzRes, frz, frz1, okPairs, guardOf, frzTs, Op1.cls, alloc, rho, ofV, ofV1, setD, closed, reach, reachN, refsL, AV.refs, getAll, renL, AV.ren, AV.cells, AV.cellOk, Ev.getO, refsO, binA, binV, finishCall, List.getD_cons_succ, List.getD_cons_zero, List.set_cons_succ, List.set_cons_zero, List.replicate_succ, List.replicate_zero, List.length_cons, List.length_nil, List.cons_append, List.nil_append, List.append_nil, List.all_nil, List.all_cons, List.map_nil, List.map_cons, List.range'_zero, List.filter_nil, List.headD_nil, List.tail_nil, List.headD_cons, if_true, if_false, Bool.false_eq_true, Bool.and_true, Bool.true_and, Option.map_some, Option.map_none, Nat.reduceSub, Nat.reduceAdd, Nat.zero_add, Nat.add_zero, reduceIte, Bool.or_false, Bool.or_true, Bool.false_or, Bool.true_or, Go.Value.oneCell', true_and, and_true, and_self, List.getElem?_cons_zero, List.getElem?_cons_succ, List.getElem?_nil, List.isEmpty_nil, Nat.reduceLeDiff, Nat.reduceMul, List.drop_zero, List.take_zero, List.drop_succ_cons, List.take_succ_cons, List.take_nil, List.drop_nil, isOldL, AV.isOld, ageL, AV.age, Int.cast_ofNat_Int, Int.natCast_zero, Int.natCast_one, Int.reduceLE, Int.reduceLT, Int.reduceToNat, fillA, partsA, Obj.refs, List.filter_cons, List.contains_nil, List.contains_cons, Bool.and_false, decide_true, decide_false, List.all_append, List.zip_nil_left, List.zip_nil_right, List.zip_cons_cons, Bool.not_true, Bool.not_false, List.any_nil, List.any_cons, Nat.reduceBEq, Nat.reduceEqDiff, beq_self_eq_true, List.idxOf_nil, G0_gf, bft, btf, bff, partsE, toCs, AV.toC, isOldParts, fillE, cOf, szOk, elems, Ev.rowAt, clean, keepT, prune, List.mapIdx_cons, List.mapIdx_nil, Nat.reduceLT, Nat.lt_add_one, Bool.not_eq_true, and_false, false_and, ite_true, ite_false, List.isEmpty_cons, decide_eq_true_eq, Nat.mul_one, reachN, List.elem_nil, Option.isSome_some, Option.isSome_none, List.range'_succ]
    rw [slOf]
    simp
def fin19 (a : AV) : St := ⟨[.s (.int .u64 0), .undef, .undef, a, .undef, .undef, .undef, .undef, .undef, .s (.int .u64 0), .s (.bool false), .undef, .undef, .undef, .undef, .undef, .undef, .undef, .undef, .undef, .undef, .undef, .undef, .undef, .undef, .undef], [none, none, none, none]⟩
theorem end19 (a : AV) (st : St) (hst : clean 4 ir19k0 st = st19 0 a) : loopStep tab G0 4 ir19k0 ir19b0 st = some (.exit 0, fin19 a) := by
  have e1 : decide ((0 : Int) > 0) = false := by decide
  simp only [loopStep, hst]
  simp only [ir19b0, ir19j0, ir19j1, st19, cmpI, e1, evFn, evIR_skip, evIR_exit, evIR_ret, evIR_reg, evIR_seq, evIR_cond, evIR_block, evIR_loop, evOps, evOp, ev1, evP, evR, evW, Ev.start, Ev.finish, resOf, frzRes, frz, frz1, okPairs, guardOf, frzTs, Op1.cls, alloc, rho, ofV, ofV1, setD, closed, reach, reachN, refsL, AV.refs, getAll, renL, AV.ren, AV.cells, AV.cellOk, Ev.getO, refsO, binA, binV, finishCall, List.getD_cons_succ, List.getD_cons_zero, List.set_cons_succ, List.set_cons_zero, List.replicate_succ, List.replicate_zero, List.length_cons, List.length_nil, List.cons_append, List.nil_append, List.append_nil, List.all_nil, List.all_cons, List.map_nil, List.map_cons, List.range'_zero, List.filter_nil, List.headD_nil, List.tail_nil, List.headD_cons, if_true, if_false, Bool.false_eq_true, Bool.and_true, Bool.true_and, Option.map_some, Option.map_none, Nat.reduceSub, Nat.reduceAdd, Nat.zero_add, Nat.add_zero, reduceIte, Bool.or_false, Bool.or_true, Bool.false_or, Bool.true_or, Go.Value.oneCell', true_and, and_true, and_self, List.getElem?_cons_zero, List.getElem?_cons_succ, List.getElem?_nil, List.isEmpty_nil, Nat.reduceLeDiff, Nat.reduceMul, List.drop_zero, List.take_zero, List.drop_succ_cons, List.take_succ_cons, List.take_nil, List.drop_nil, isOldL, AV.isOld, ageL, AV.age, Int.cast_ofNat_Int, Int.natCast_zero, Int.natCast_one, Int.reduceLE, Int.reduceLT, Int.reduceToNat, fillA, partsA, Obj.refs, List.filter_cons, List.contains_nil, List.contains_cons, Bool.and_false, decide_true, decide_false, List.all_append, List.zip_nil_left, List.zip_nil_right, List.zip_cons_cons, Bool.not_true, Bool.not_false, List.any_nil, List.any_cons, Nat.reduceBEq, Nat.reduceEqDiff, beq_self_eq_true, List.idxOf_nil, G0_gf, bft, btf, bff, partsE, toCs, AV.toC, isOldParts, fillE, cOf, szOk, elems, Ev.rowAt, clean, keepT, prune, List.mapIdx_cons, List.mapIdx_nil, Nat.reduceLT, Nat.lt_add_one, Bool.not_eq_true, and_false, false_and, ite_true, ite_false, List.isEmpty_cons, decide_eq_true_eq, Nat.mul_one, reachN, List.elem_nil, Option.isSome_some, Option.isSome_none, List.range'_succ]
  rfl
theorem slOf_refs (l : List (List C)) : (slOf l).refs = [] := by cases l <;> rfl
theorem clean19 (v : Int) (l : List (List C)) : clean 4 ir19k0 (st19 v (slOf l)) = st19 v (slOf l) := by
  simp only [ir19k0, st19, slOf_refs, evFn, evIR_skip, evIR_exit, evIR_ret, evIR_reg, evIR_seq, evIR_cond, evIR_block, evIR_loop, evOps, evOp, ev1, evP, evR, evW, Ev.start, Ev.finish, resOf, frzRes, frz, frz1, okPairs, guardOf, frzTs, Op1.cls, alloc, rho, ofV, ofV1, setD, closed, reach, reachN, refsL, AV.refs, getAll, renL, AV.ren, AV.cells, AV.cellOk, Ev.getO, refsO, binA, binV, finishCall, List.getD_cons_succ, List.getD_cons_zero, List.set_cons_succ, List.set_cons_zero, List.replicate_succ, List.replicate_zero, List.length_cons, List.length_nil, List.cons_append, List.nil_append, List.append_nil, List.all_nil, List.all_cons, List.map_nil, List.map_cons, List.range'_zero, List.filter_nil, List.headD_nil, List.tail_nil, List.headD_cons, if_true, if_false, Bool.false_eq_true, Bool.and_true, Bool.true_and, Option.map_some, Option.map_none, Nat.reduceSub, Nat.reduceAdd, Nat.zero_add, Nat.add_zero, reduceIte, Bool.or_false, Bool.or_true, Bool.false_or, Bool.true_or, Go.Value.oneCell', true_and, and_true, and_self, List.getElem?_cons_zero, List.getElem?_cons_succ, List.getElem?_nil, List.isEmpty_nil, Nat.reduceLeDiff, Nat.reduceMul, List.drop_zero, List.take_zero, List.drop_succ_cons, List.take_succ_cons, List.take_nil, List.drop_nil, isOldL, AV.isOld, ageL, AV.age, Int.cast_ofNat_Int, Int.natCast_zero, Int.natCast_one, Int.reduceLE, Int.reduceLT, Int.reduceToNat, fillA, partsA, Obj.refs, List.filter_cons, List.contains_nil, List.contains_cons, Bool.and_false, decide_true, decide_false, List.all_append, List.zip_nil_left, List.zip_nil_right, List.zip_cons_cons, Bool.not_true, Bool.not_false, List.any_nil, List.any_cons, Nat.reduceBEq, Nat.reduceEqDiff, beq_self_eq_true, List.idxOf_nil, G0_gf, bft, btf, bff, partsE, toCs, AV.toC, isOldParts, fillE, cOf, szOk, elems, Ev.rowAt, clean, keepT, prune, List.mapIdx_cons, List.mapIdx_nil, Nat.reduceLT, Nat.lt_add_one, Bool.not_eq_true, and_false, false_and, ite_true, ite_false, List.isEmpty_cons, decide_eq_true_eq, Nat.mul_one, reachN, List.elem_nil, Option.isSome_some, Option.isSome_none, List.range'_succ]
theorem be_all : ∀ (n : Nat) (v : Int) (l : List (List C)), (l.all fun e => e.length == 1) = true → ((be n v l).all fun e => e.length == 1) = true
  | 0, _, _, h => h
  | n + 1, v, l, h => by
    simp only [be]
    split
    · exact h
    · exact be_all n _ _ (by simp [by1]; simpa using h)
theorem loop19 : ∀ (n : Nat) (v : Int) (l : List (List C)) (st : St), 0 ≤ v → v < 256 ^ n → v < 18446744073709551616 → (l.all fun e => e.length == 1) = true → n + l.length < 50 → clean 4 ir19k0 st = st19 v (slOf l) →
    LoopL (loopStep tab G0 4 ir19k0 ir19b0) st = some (.exit 0, fin19 (slOf (be n v l)))
  | 0, v, l, st, h0, h1, h2, h3, h4, hst => by
    have : v = 0 := by simp at h1; omega
    subst this
    exact LoopL_exit (end19 _ st hst)
  | n + 1, v, l, st, h0, h1, h2, h3, h4, hst => by
    by_cases hv : v = 0
    · subst hv
      simp only [be, if_true]
      exact LoopL_exit (end19 _ st hst)
    · simp only [be, if_neg hv]
      rw [LoopL_next (round19 v (by omega) h2 l h3 (by omega) st hst)]
      refine loop19 n (v / 256) _ _ (by omega) ?_ (by omega) (by simp [by1]; simpa using h3) (by simp; omega) (clean19 _ _)
      have : v < 256 ^ n * 256 := by rw [← Int.pow_succ]; exact h1
      omega

theorem be_len : ∀ (n : Nat) (v : Int) (l : List (List C)), (be n v l).length ≤ n + l.length
  | 0, _, _ => by simp [be]
  | n + 1, v, l => by
    simp only [be]
    split
    · omega
    · have := be_len n (v / 256) (by1 (v % 256) :: l)
      simp at this; omega
theorem be_ne : ∀ (n : Nat) (v : Int) (l : List (List C)), (l ≠ [] ∨ v ≠ 0 ∧ n ≠ 0) → be n v l ≠ []
  | 0, _, _, h => by
    simp only [be]
    rcases h with h | h
    · exact h
    · exact absurd rfl h.2
  | n + 1, v, l, h => by
    simp only [be]
    split
    · rename_i hv
      rcases h with h | h
      · exact h
      · exact absurd hv h.1
    · exact be_ne n _ _ (.inl (by simp))
theorem slOf_ne {l : List (List C)} (h : l ≠ []) : slOf l = .sl false l := by
  cases l with
  | nil => exact absurd rfl h
  | cons x l => rfl
/-- A number's bytes. -/
def numB (v : Int) : List (List C) := if v < 248 then [by1 v] else by1 (247 + (be 8 v []).length) :: be 8 v []
theorem refNum (v : Int) (h0 : 0 ≤ v) (h2 : v < 18446744073709551616) : Ev tab G0 19 [.s (.int .u64 v)] [] = some ([.sl false (numB v)], []) := by
  apply Ev_of
  by_cases hv : v < 248
  · have e1 : decide (v < 248) = true := by simpa using hv
    have e2 : IntKind.wrap .u8 v = v := wrap_u8 h0 (by omega)
    simp only [tab19, ir19, ir19j0, cmpI, e1, e2, numB, hv, by1, evFn, evIR_skip, evIR_exit, evIR_ret, evIR_reg, evIR_seq, evIR_cond, evIR_block, evIR_loop, evOps, evOp, ev1, evP, evR, evW, Ev.start, Ev.finish, resOf, frzRes, frz, frz1, okPairs, guardOf, frzTs, Op1.cls, alloc, rho, ofV, ofV1, setD, closed, reach, reachN, refsL, AV.refs, getAll, renL, AV.ren, AV.cells, AV.cellOk, Ev.getO, refsO, binA, binV, finishCall, List.getD_cons_succ, List.getD_cons_zero, List.set_cons_succ, List.set_cons_zero, List.replicate_succ, List.replicate_zero, List.length_cons, List.length_nil, List.cons_append, List.nil_append, List.append_nil, List.all_nil, List.all_cons, List.map_nil, List.map_cons, List.range'_zero, List.filter_nil, List.headD_nil, List.tail_nil, List.headD_cons, if_true, if_false, Bool.false_eq_true, Bool.and_true, Bool.true_and, Option.map_some, Option.map_none, Nat.reduceSub, Nat.reduceAdd, Nat.zero_add, Nat.add_zero, reduceIte, Bool.or_false, Bool.or_true, Bool.false_or, Bool.true_or, Go.Value.oneCell', true_and, and_true, and_self, List.getElem?_cons_zero, List.getElem?_cons_succ, List.getElem?_nil, List.isEmpty_nil, Nat.reduceLeDiff, Nat.reduceMul, List.drop_zero, List.take_zero, List.drop_succ_cons, List.take_succ_cons, List.take_nil, List.drop_nil, isOldL, AV.isOld, ageL, AV.age, Int.cast_ofNat_Int, Int.natCast_zero, Int.natCast_one, Int.reduceLE, Int.reduceLT, Int.reduceToNat, fillA, partsA, Obj.refs, List.filter_cons, List.contains_nil, List.contains_cons, Bool.and_false, decide_true, decide_false, List.all_append, List.zip_nil_left, List.zip_nil_right, List.zip_cons_cons, Bool.not_true, Bool.not_false, List.any_nil, List.any_cons, Nat.reduceBEq, Nat.reduceEqDiff, beq_self_eq_true, List.idxOf_nil, G0_gf, bft, btf, bff, partsE, toCs, AV.toC, isOldParts, fillE, cOf, szOk, elems, Ev.rowAt, clean, keepT, prune, List.mapIdx_cons, List.mapIdx_nil, Nat.reduceLT, Nat.lt_add_one, Bool.not_eq_true, and_false, false_and, ite_true, ite_false, List.isEmpty_cons, decide_eq_true_eq, Nat.mul_one, reachN, List.elem_nil, Option.isSome_some, Option.isSome_none, List.range'_succ]
  · have e1 : decide (v < 248) = false := by simpa using hv
    have e3 := fun st hst => loop19 8 v [] st h0 (by simpa using h2) h2 rfl (by simp) hst
    generalize hq : be 8 v [] = q at e3
    have hlen : q.length ≤ 8 := by rw [← hq]; simpa using be_len 8 v []
    have hall : (q.all fun e => e.length == 1) = true := by rw [← hq]; exact be_all 8 v [] rfl
    have e4 : IntKind.wrap .i64 (247 + q.length) = 247 + q.length := wrap_i64 (by omega) (by omega)
    have e5 : IntKind.wrap .u8 (247 + q.length) = 247 + q.length := wrap_u8 (by omega) (by omega)
    have e6 : 1 + q.length ≤ 140737488355328 := by omega
    simp only [tab19, ir19, ir19j0, cmpI, e1, evFn, evIR_skip, evIR_exit, evIR_ret, evIR_reg, evIR_seq, evIR_cond, evIR_block, evIR_loop, evOps, evOp, ev1, evP, evR, evW, Ev.start, Ev.finish, resOf, frzRes, frz, frz1, okPairs, guardOf, frzTs, Op1.cls, alloc, rho, ofV, ofV1, setD, closed, reach, reachN, refsL, AV.refs, getAll, renL, AV.ren, AV.cells, AV.cellOk, Ev.getO, refsO, binA, binV, finishCall, List.getD_cons_succ, List.getD_cons_zero, List.set_cons_succ, List.set_cons_zero, List.replicate_succ, List.replicate_zero, List.length_cons, List.length_nil, List.cons_append, List.nil_append, List.append_nil, List.all_nil, List.all_cons, List.map_nil, List.map_cons, List.range'_zero, List.filter_nil, List.headD_nil, List.tail_nil, List.headD_cons, if_true, if_false, Bool.false_eq_true, Bool.and_true, Bool.true_and, Option.map_some, Option.map_none, Nat.reduceSub, Nat.reduceAdd, Nat.zero_add, Nat.add_zero, reduceIte, Bool.or_false, Bool.or_true, Bool.false_or, Bool.true_or, Go.Value.oneCell', true_and, and_true, and_self, List.getElem?_cons_zero, List.getElem?_cons_succ, List.getElem?_nil, List.isEmpty_nil, Nat.reduceLeDiff, Nat.reduceMul, List.drop_zero, List.take_zero, List.drop_succ_cons, List.take_succ_cons, List.take_nil, List.drop_nil, isOldL, AV.isOld, ageL, AV.age, Int.cast_ofNat_Int, Int.natCast_zero, Int.natCast_one, Int.reduceLE, Int.reduceLT, Int.reduceToNat, fillA, partsA, Obj.refs, List.filter_cons, List.contains_nil, List.contains_cons, Bool.and_false, decide_true, decide_false, List.all_append, List.zip_nil_left, List.zip_nil_right, List.zip_cons_cons, Bool.not_true, Bool.not_false, List.any_nil, List.any_cons, Nat.reduceBEq, Nat.reduceEqDiff, beq_self_eq_true, List.idxOf_nil, G0_gf, bft, btf, bff, partsE, toCs, AV.toC, isOldParts, fillE, cOf, szOk, elems, Ev.rowAt, clean, keepT, prune, List.mapIdx_cons, List.mapIdx_nil, Nat.reduceLT, Nat.lt_add_one, Bool.not_eq_true, and_false, false_and, ite_true, ite_false, List.isEmpty_cons, decide_eq_true_eq, Nat.mul_one, reachN, List.elem_nil, Option.isSome_some, Option.isSome_none, List.range'_succ]
    rw [e3 _ (by simp only [ir19k0, st19, slOf, evFn, evIR_skip, evIR_exit, evIR_ret, evIR_reg, evIR_seq, evIR_cond, evIR_block, evIR_loop, evOps, evOp, ev1, evP, evR, evW, Ev.start, Ev.finish, resOf, frzRes, frz, frz1, okPairs, guardOf, frzTs, Op1.cls, alloc, rho, ofV, ofV1, setD, closed, reach, reachN, refsL, AV.refs, getAll, renL, AV.ren, AV.cells, AV.cellOk, Ev.getO, refsO, binA, binV, finishCall, List.getD_cons_succ, List.getD_cons_zero, List.set_cons_succ, List.set_cons_zero, List.replicate_succ, List.replicate_zero, List.length_cons, List.length_nil, List.cons_append, List.nil_append, List.append_nil, List.all_nil, List.all_cons, List.map_nil, List.map_cons, List.range'_zero, List.filter_nil, List.headD_nil, List.tail_nil, List.headD_cons, if_true, if_false, Bool.false_eq_true, Bool.and_true, Bool.true_and, Option.map_some, Option.map_none, Nat.reduceSub, Nat.reduceAdd, Nat.zero_add, Nat.add_zero, reduceIte, Bool.or_false, Bool.or_true, Bool.false_or, Bool.true_or, Go.Value.oneCell', true_and, and_true, and_self, List.getElem?_cons_zero, List.getElem?_cons_succ, List.getElem?_nil, List.isEmpty_nil, Nat.reduceLeDiff, Nat.reduceMul, List.drop_zero, List.take_zero, List.drop_succ_cons, List.take_succ_cons, List.take_nil, List.drop_nil, isOldL, AV.isOld, ageL, AV.age, Int.cast_ofNat_Int, Int.natCast_zero, Int.natCast_one, Int.reduceLE, Int.reduceLT, Int.reduceToNat, fillA, partsA, Obj.refs, List.filter_cons, List.contains_nil, List.contains_cons, Bool.and_false, decide_true, decide_false, List.all_append, List.zip_nil_left, List.zip_nil_right, List.zip_cons_cons, Bool.not_true, Bool.not_false, List.any_nil, List.any_cons, Nat.reduceBEq, Nat.reduceEqDiff, beq_self_eq_true, List.idxOf_nil, G0_gf, bft, btf, bff, partsE, toCs, AV.toC, isOldParts, fillE, cOf, szOk, elems, Ev.rowAt, clean, keepT, prune, List.mapIdx_cons, List.mapIdx_nil, Nat.reduceLT, Nat.lt_add_one, Bool.not_eq_true, and_false, false_and, ite_true, ite_false, List.isEmpty_cons, decide_eq_true_eq, Nat.mul_one, reachN, List.elem_nil, Option.isSome_some, Option.isSome_none, List.range'_succ])]
    have hs : slOf q = .sl false q := slOf_ne (by rw [← hq]; exact be_ne 8 v [] (.inr ⟨by omega, by decide⟩))
    simp only [fin19, ir19j0, slOf_refs, hs, add_ev, e4, e5, e6, hall, numB, hv, by1, hq, evFn, evIR_skip, evIR_exit, evIR_ret, evIR_reg, evIR_seq, evIR_cond, evIR_block, evIR_loop, evOps, evOp, ev1, evP, evR, evW, Ev.start, Ev.finish, resOf, frzRes, frz, frz1, okPairs, guardOf, frzTs, Op1.cls, alloc, rho, ofV, ofV1, setD, closed, reach, reachN, refsL, AV.refs, getAll, renL, AV.ren, AV.cells, AV.cellOk, Ev.getO, refsO, binA, binV, finishCall, List.getD_cons_succ, List.getD_cons_zero, List.set_cons_succ, List.set_cons_zero, List.replicate_succ, List.replicate_zero, List.length_cons, List.length_nil, List.cons_append, List.nil_append, List.append_nil, List.all_nil, List.all_cons, List.map_nil, List.map_cons, List.range'_zero, List.filter_nil, List.headD_nil, List.tail_nil, List.headD_cons, if_true, if_false, Bool.false_eq_true, Bool.and_true, Bool.true_and, Option.map_some, Option.map_none, Nat.reduceSub, Nat.reduceAdd, Nat.zero_add, Nat.add_zero, reduceIte, Bool.or_false, Bool.or_true, Bool.false_or, Bool.true_or, Go.Value.oneCell', true_and, and_true, and_self, List.getElem?_cons_zero, List.getElem?_cons_succ, List.getElem?_nil, List.isEmpty_nil, Nat.reduceLeDiff, Nat.reduceMul, List.drop_zero, List.take_zero, List.drop_succ_cons, List.take_succ_cons, List.take_nil, List.drop_nil, isOldL, AV.isOld, ageL, AV.age, Int.cast_ofNat_Int, Int.natCast_zero, Int.natCast_one, Int.reduceLE, Int.reduceLT, Int.reduceToNat, fillA, partsA, Obj.refs, List.filter_cons, List.contains_nil, List.contains_cons, Bool.and_false, decide_true, decide_false, List.all_append, List.zip_nil_left, List.zip_nil_right, List.zip_cons_cons, Bool.not_true, Bool.not_false, List.any_nil, List.any_cons, Nat.reduceBEq, Nat.reduceEqDiff, beq_self_eq_true, List.idxOf_nil, G0_gf, bft, btf, bff, partsE, toCs, AV.toC, isOldParts, fillE, cOf, szOk, elems, Ev.rowAt, clean, keepT, prune, List.mapIdx_cons, List.mapIdx_nil, Nat.reduceLT, Nat.lt_add_one, Bool.not_eq_true, and_false, false_and, ite_true, ite_false, List.isEmpty_cons, decide_eq_true_eq, Nat.mul_one, reachN, List.elem_nil, Option.isSome_some, Option.isSome_none, List.range'_succ]
end Go.Proofs.Ytfbipgidlecmkaa
