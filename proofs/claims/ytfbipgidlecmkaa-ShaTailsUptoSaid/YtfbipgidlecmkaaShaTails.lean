/-
  ShaTails: the law, by the evaluator.
-/
import Derived.Test.YtfbipgidlecmkaaLTail
set_option linter.unusedSimpArgs false
set_option linter.unusedVariables false
set_option maxRecDepth 200000
set_option maxHeartbeats 4000000
namespace Go.Proofs.Ytfbipgidlecmkaa
open Go.Ev

theorem law_ShaTails (n : Int) (h : -9223372036854775808 ≤ n ∧ n < 9223372036854775808) : ∃ outs, Ev tab G0 n_law01_ShaTails [i64 n] [] = some ([bo true], outs) := by
  have h0 := sha_Tail_good 55 (by omega)
  have e0 : (tailB 55).length = 9 := by decide
  refine ⟨[], Ev_run t_law01_ShaTails rfl rfl ?_⟩
  by_cases hb : n < 0 ∨ 1125899906842624 < n
  · have h1 := sha_Tail_bad n h hb
    simp (maxSteps := 1000000) (disch := first | omega | (simp only [List.length_cons, List.length_nil, List.length_append, List.length_map, List.length_take, List.length_drop]; omega)) only [go_sem, ↓reduceIte, Nat.reduceSub, Nat.reduceAdd, Nat.reduceMul, Nat.reduceLeDiff, Nat.reduceLT, Nat.reduceEqDiff, Nat.reduceBEq, Int.reduceLE, Int.reduceLT, Int.reduceEq, Int.reduceNeg, Int.reduceAdd, Int.reduceSub, Int.reduceMul, Int.reduceToNat, i_law01_ShaTails, h0, e0, h1]
    (repeat' split) <;> first | rfl | (exfalso; omega) | (simp_all; done) | (simp_all; omega)
  · have h1 := sha_Tail_good n (by omega)
    have h2 := ref01_Tail_ev n (by omega)
    simp (maxSteps := 1000000) (disch := first | omega | (simp only [List.length_cons, List.length_nil, List.length_append, List.length_map, List.length_take, List.length_drop]; omega)) only [go_sem, ↓reduceIte, Nat.reduceSub, Nat.reduceAdd, Nat.reduceMul, Nat.reduceLeDiff, Nat.reduceLT, Nat.reduceEqDiff, Nat.reduceBEq, Int.reduceLE, Int.reduceLT, Int.reduceEq, Int.reduceNeg, Int.reduceAdd, Int.reduceSub, Int.reduceMul, Int.reduceToNat, i_law01_ShaTails, h0, e0, h1, h2]

end Go.Proofs.Ytfbipgidlecmkaa
