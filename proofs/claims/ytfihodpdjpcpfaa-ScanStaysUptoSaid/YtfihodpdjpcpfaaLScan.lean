/-
  Spans, by the evaluator.
-/
import Derived.Test.YtfihodpdjpcpfaaLStr
import Derived.Test.YtfihodpdjpcpfaaLClone
import Derived.KernelRfl
set_option linter.unusedSimpArgs false
set_option linter.unusedVariables false
set_option maxRecDepth 200000
set_option maxHeartbeats 4000000
namespace Go.Proofs.Ytfihodpdjpcpfaa
open Go.Ev

abbrev avSpan (f t : List UInt8) (o : Bool) : AV := .agg [.sl true (eB f), .sl true (eB t), bo o]
/-- Is a key in a span? -/
def inS (f t : List UInt8) (o : Bool) (k : List UInt8) : Bool := decide (0 ≤ cmp k f) && (o || decide (cmp k t < 0))
theorem scan_In_ev (f t k : List UInt8) (o : Bool) : Ev tab G0 n_scan_In [avSpan f t o, .sl true (eB k)] [] = some ([bo (inS f t o k)], []) := by
  have h1 := bytes_Compare_ev k f
  have h2 := bytes_Compare_ev k t
  refine Ev_run t_scan_In rfl rfl ?_
  by_cases c1 : 0 ≤ cmp k f
  · cases o
    · simp (maxSteps := 1000000) (disch := first | omega | (simp only [List.length_cons, List.length_nil, List.length_append, List.length_map, List.length_take, List.length_drop]; omega)) only [go_sem, ↓reduceIte, Nat.reduceSub, Nat.reduceAdd, Nat.reduceMul, Nat.reduceLeDiff, Nat.reduceLT, Nat.reduceEqDiff, Nat.reduceBEq, Int.reduceLE, Int.reduceLT, Int.reduceEq, Int.reduceNeg, Int.reduceAdd, Int.reduceSub, Int.reduceMul, Int.reduceToNat, i_scan_In, inS, h1, h2]
    · simp (maxSteps := 1000000) (disch := first | omega | (simp only [List.length_cons, List.length_nil, List.length_append, List.length_map, List.length_take, List.length_drop]; omega)) only [go_sem, ↓reduceIte, Nat.reduceSub, Nat.reduceAdd, Nat.reduceMul, Nat.reduceLeDiff, Nat.reduceLT, Nat.reduceEqDiff, Nat.reduceBEq, Int.reduceLE, Int.reduceLT, Int.reduceEq, Int.reduceNeg, Int.reduceAdd, Int.reduceSub, Int.reduceMul, Int.reduceToNat, i_scan_In, inS, h1]
  · simp (maxSteps := 1000000) (disch := first | omega | (simp only [List.length_cons, List.length_nil, List.length_append, List.length_map, List.length_take, List.length_drop]; omega)) only [go_sem, ↓reduceIte, Nat.reduceSub, Nat.reduceAdd, Nat.reduceMul, Nat.reduceLeDiff, Nat.reduceLT, Nat.reduceEqDiff, Nat.reduceBEq, Int.reduceLE, Int.reduceLT, Int.reduceEq, Int.reduceNeg, Int.reduceAdd, Int.reduceSub, Int.reduceMul, Int.reduceToNat, i_scan_In, inS, h1]
theorem ref06_In_ev (f t k : List UInt8) (o : Bool) : Ev tab G0 n_ref06_In [avSpan f t o, .sl true (eB k)] [] = some ([bo (inS f t o k)], []) := by
  have hs := cmp_swap k f
  refine Ev_run t_ref06_In rfl rfl ?_
  by_cases c1 : 0 ≤ cmp k f
  · have e1 : (decide (cmp f k < 0) || decide (cmp f k = 0)) = true := by simp; omega
    cases o
    · simp (maxSteps := 1000000) (disch := first | omega | (simp only [List.length_cons, List.length_nil, List.length_append, List.length_map, List.length_take, List.length_drop]; omega)) only [go_sem, ↓reduceIte, Nat.reduceSub, Nat.reduceAdd, Nat.reduceMul, Nat.reduceLeDiff, Nat.reduceLT, Nat.reduceEqDiff, Nat.reduceBEq, Int.reduceLE, Int.reduceLT, Int.reduceEq, Int.reduceNeg, Int.reduceAdd, Int.reduceSub, Int.reduceMul, Int.reduceToNat, i_ref06_In, inS, less_cmp, eq_cmp, e1]
    · simp (maxSteps := 1000000) (disch := first | omega | (simp only [List.length_cons, List.length_nil, List.length_append, List.length_map, List.length_take, List.length_drop]; omega)) only [go_sem, ↓reduceIte, Nat.reduceSub, Nat.reduceAdd, Nat.reduceMul, Nat.reduceLeDiff, Nat.reduceLT, Nat.reduceEqDiff, Nat.reduceBEq, Int.reduceLE, Int.reduceLT, Int.reduceEq, Int.reduceNeg, Int.reduceAdd, Int.reduceSub, Int.reduceMul, Int.reduceToNat, i_ref06_In, inS, less_cmp, eq_cmp, e1]
  · have e1 : (decide (cmp f k < 0) || decide (cmp f k = 0)) = false := by simp; omega
    simp (maxSteps := 1000000) (disch := first | omega | (simp only [List.length_cons, List.length_nil, List.length_append, List.length_map, List.length_take, List.length_drop]; omega)) only [go_sem, ↓reduceIte, Nat.reduceSub, Nat.reduceAdd, Nat.reduceMul, Nat.reduceLeDiff, Nat.reduceLT, Nat.reduceEqDiff, Nat.reduceBEq, Int.reduceLE, Int.reduceLT, Int.reduceEq, Int.reduceNeg, Int.reduceAdd, Int.reduceSub, Int.reduceMul, Int.reduceToNat, i_ref06_In, inS, less_cmp, eq_cmp, e1]
theorem eqE_eB : ∀ l : List UInt8, eqE (eB l) (eB l) = true
  | [] => rfl
  | b :: l => by
    have := eqE_eB l
    simp only [eB, List.map_cons, eqE] at this ⊢
    simp [this]
theorem up06_ev : Ev tab G0 n_law06_up [] [] = some ([bo true], []) := Ev_by 12 (by kernel_rfl)
end Go.Proofs.Ytfihodpdjpcpfaa
