/-
  ShaSums: the law, by the evaluator.
-/
import Derived.Test.YtfbipgidlecmkaaDoorLSum
import Derived.Test.YtfbipgidlecmkaaDoorLMade3
set_option linter.unusedSimpArgs false
set_option linter.unusedVariables false
set_option maxRecDepth 200000
set_option maxHeartbeats 4000000
namespace Go.Proofs.YtfbipgidlecmkaaDoor
open Go.Ev

theorem law_ShaSums (b : List UInt8) (hb : b.length ≤ 1048576) : ∃ outs, Ev tab G0 n_law01_ShaSums [.sl true (eB b)] [] = some ([bo true], outs) := by
  have h0 := ref01_Made_ev
  refine ⟨[], Ev_run t_law01_ShaSums rfl rfl ?_⟩
  by_cases hl : 20000 < b.length
  · have h1 := sha_Sum_ev (b.take 20000) (by simp; omega)
    have h2 := ref01_Sum_ev (b.take 20000) (by simp; omega) tabK rfl
    have hs := shaS_len (b.take 20000)
    generalize shaS (b.take 20000) = s at *
    try simp (maxSteps := 1000000) (disch := first | omega | (simp only [List.length_cons, List.length_nil, List.length_append, List.length_map, List.length_take, List.length_drop]; omega)) only [go_sem, ↓reduceIte, Nat.reduceSub, Nat.reduceAdd, Nat.reduceMul, Nat.reduceLeDiff, Nat.reduceLT, Nat.reduceEqDiff, Nat.reduceBEq, Int.reduceLE, Int.reduceLT, Int.reduceEq, Int.reduceNeg, Int.reduceAdd, Int.reduceSub, Int.reduceMul, Int.reduceToNat] at h1
    try simp (maxSteps := 1000000) (disch := first | omega | (simp only [List.length_cons, List.length_nil, List.length_append, List.length_map, List.length_take, List.length_drop]; omega)) only [go_sem, ↓reduceIte, Nat.reduceSub, Nat.reduceAdd, Nat.reduceMul, Nat.reduceLeDiff, Nat.reduceLT, Nat.reduceEqDiff, Nat.reduceBEq, Int.reduceLE, Int.reduceLT, Int.reduceEq, Int.reduceNeg, Int.reduceAdd, Int.reduceSub, Int.reduceMul, Int.reduceToNat] at h2
    simp (maxSteps := 1000000) (disch := first | omega | (simp only [List.length_cons, List.length_nil, List.length_append, List.length_map, List.length_take, List.length_drop]; omega)) only [go_sem, ↓reduceIte, Nat.reduceSub, Nat.reduceAdd, Nat.reduceMul, Nat.reduceLeDiff, Nat.reduceLT, Nat.reduceEqDiff, Nat.reduceBEq, Int.reduceLE, Int.reduceLT, Int.reduceEq, Int.reduceNeg, Int.reduceAdd, Int.reduceSub, Int.reduceMul, Int.reduceToNat, i_law01_ShaSums, h0, h1, h2, hs]
  · have h1 := sha_Sum_ev b (by omega)
    have h2 := ref01_Sum_ev b (by omega) tabK rfl
    have hs := shaS_len b
    generalize shaS b = s at *
    simp (maxSteps := 1000000) (disch := first | omega | (simp only [List.length_cons, List.length_nil, List.length_append, List.length_map, List.length_take, List.length_drop]; omega)) only [go_sem, ↓reduceIte, Nat.reduceSub, Nat.reduceAdd, Nat.reduceMul, Nat.reduceLeDiff, Nat.reduceLT, Nat.reduceEqDiff, Nat.reduceBEq, Int.reduceLE, Int.reduceLT, Int.reduceEq, Int.reduceNeg, Int.reduceAdd, Int.reduceSub, Int.reduceMul, Int.reduceToNat, i_law01_ShaSums, h0, h1, h2, hs]

end Go.Proofs.YtfbipgidlecmkaaDoor
