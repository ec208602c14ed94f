/-
  ShaSteps: the law, by the evaluator.
-/
import Derived.Test.YtfbipgidlecmkaaDoorLSum
import Derived.Test.YtfbipgidlecmkaaDoorLMade3
set_option linter.unusedSimpArgs false
set_option linter.unusedVariables false
set_option maxRecDepth 200000
set_option maxHeartbeats 4000000
namespace Go.Proofs.YtfbipgidlecmkaaDoor
open Go.Ev

theorem law_ShaSteps (a b c d e f g h : Int) (l : List UInt8) (hb : l.length ≤ 1048576) : ∃ outs, Ev tab G0 n_law01_ShaSteps [avV ⟨a, b, c, d, e, f, g, h⟩, .sl true (eB l)] [] = some ([bo true], outs) := by
  have h0 := ref01_Made_ev
  have h1 := sha_First_ev
  refine ⟨[], Ev_run t_law01_ShaSteps rfl rfl ?_⟩
  by_cases hl : l.length = 64
  · have h2 := sha_Step_good ⟨a, b, c, d, e, f, g, h⟩ l hl
    have h3 := ref01_Step_ev tabK rfl V1 ⟨a, b, c, d, e, f, g, h⟩ l hl
    generalize stp tabK ⟨a, b, c, d, e, f, g, h⟩ l = x at *
    try simp (maxSteps := 1000000) (disch := first | omega | (simp only [List.length_cons, List.length_nil, List.length_append, List.length_map, List.length_take, List.length_drop]; omega)) only [go_sem, ↓reduceIte, Nat.reduceSub, Nat.reduceAdd, Nat.reduceMul, Nat.reduceLeDiff, Nat.reduceLT, Nat.reduceEqDiff, Nat.reduceBEq, Int.reduceLE, Int.reduceLT, Int.reduceEq, Int.reduceNeg, Int.reduceAdd, Int.reduceSub, Int.reduceMul, Int.reduceToNat] at h2
    try simp (maxSteps := 1000000) (disch := first | omega | (simp only [List.length_cons, List.length_nil, List.length_append, List.length_map, List.length_take, List.length_drop]; omega)) only [go_sem, ↓reduceIte, Nat.reduceSub, Nat.reduceAdd, Nat.reduceMul, Nat.reduceLeDiff, Nat.reduceLT, Nat.reduceEqDiff, Nat.reduceBEq, Int.reduceLE, Int.reduceLT, Int.reduceEq, Int.reduceNeg, Int.reduceAdd, Int.reduceSub, Int.reduceMul, Int.reduceToNat, V1] at h3
    simp (maxSteps := 1000000) (disch := first | omega | (simp only [List.length_cons, List.length_nil, List.length_append, List.length_map, List.length_take, List.length_drop]; omega)) only [go_sem, ↓reduceIte, Nat.reduceSub, Nat.reduceAdd, Nat.reduceMul, Nat.reduceLeDiff, Nat.reduceLT, Nat.reduceEqDiff, Nat.reduceBEq, Int.reduceLE, Int.reduceLT, Int.reduceEq, Int.reduceNeg, Int.reduceAdd, Int.reduceSub, Int.reduceMul, Int.reduceToNat, i_law01_ShaSteps, h0, h1, h2, h3, hl, V1, eqInts, ints, beq_self_eq_true]
  · have h2 := sha_Step_bad ⟨a, b, c, d, e, f, g, h⟩ l hl (by omega)
    try simp (maxSteps := 1000000) (disch := first | omega | (simp only [List.length_cons, List.length_nil, List.length_append, List.length_map, List.length_take, List.length_drop]; omega)) only [go_sem, ↓reduceIte, Nat.reduceSub, Nat.reduceAdd, Nat.reduceMul, Nat.reduceLeDiff, Nat.reduceLT, Nat.reduceEqDiff, Nat.reduceBEq, Int.reduceLE, Int.reduceLT, Int.reduceEq, Int.reduceNeg, Int.reduceAdd, Int.reduceSub, Int.reduceMul, Int.reduceToNat] at h2
    simp (maxSteps := 1000000) (disch := first | omega | (simp only [List.length_cons, List.length_nil, List.length_append, List.length_map, List.length_take, List.length_drop]; omega)) only [go_sem, ↓reduceIte, Nat.reduceSub, Nat.reduceAdd, Nat.reduceMul, Nat.reduceLeDiff, Nat.reduceLT, Nat.reduceEqDiff, Nat.reduceBEq, Int.reduceLE, Int.reduceLT, Int.reduceEq, Int.reduceNeg, Int.reduceAdd, Int.reduceSub, Int.reduceMul, Int.reduceToNat, i_law01_ShaSteps, h0, h1, h2, hl, V1, eqInts, ints, beq_self_eq_true]

end Go.Proofs.YtfbipgidlecmkaaDoor
