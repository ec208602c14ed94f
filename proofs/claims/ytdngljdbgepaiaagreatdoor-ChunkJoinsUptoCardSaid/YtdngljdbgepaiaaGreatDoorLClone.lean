/-
  slices.Clone of bytes, by the evaluator.
-/
import Derived.Test.YtdngljdbgepaiaaGreatDoorIr
set_option linter.unusedSimpArgs false
set_option linter.unusedVariables false
set_option maxRecDepth 200000
set_option maxHeartbeats 4000000
namespace Go.Proofs.YtdngljdbgepaiaaGreatDoor
open Go.Ev

theorem clone_bytes_ev (l : List UInt8) (h : l.length ≤ 140737488355328) : Ev tab G0 n_slices_Clone_sl_byte_byte [.sl true (eB l)] [] = some ([.sl true (eB l)], []) := by
  cases l with
  | nil =>
    refine Ev_nilq t_slices_Clone_sl_byte_byte rfl rfl (evFn1_run rfl ?_) (evFn1_run rfl ?_)
    · simp (maxSteps := 1000000) (disch := first | omega | (simp only [lens, List.length_map]; omega)) only [go_sem, ↓reduceIte, Nat.reduceSub, Nat.reduceAdd, Nat.reduceMul, Nat.reduceLeDiff, Nat.reduceLT, Nat.reduceEqDiff, Nat.reduceBEq, Int.reduceLE, Int.reduceLT, Int.reduceEq, Int.reduceNeg, Int.reduceAdd, Int.reduceSub, Int.reduceMul, Int.reduceToNat, i_slices_Clone_sl_byte_byte]
    · simp (maxSteps := 1000000) (disch := first | omega | (simp only [lens, List.length_map]; omega)) only [go_sem, ↓reduceIte, Nat.reduceSub, Nat.reduceAdd, Nat.reduceMul, Nat.reduceLeDiff, Nat.reduceLT, Nat.reduceEqDiff, Nat.reduceBEq, Int.reduceLE, Int.reduceLT, Int.reduceEq, Int.reduceNeg, Int.reduceAdd, Int.reduceSub, Int.reduceMul, Int.reduceToNat, i_slices_Clone_sl_byte_byte]
  | cons b l =>
    simp only [List.length_cons] at h
    rw [show eB (b :: l) = e1 b :: eB l from rfl]
    refine Ev_notnil t_slices_Clone_sl_byte_byte rfl rfl (evFn1_run rfl ?_)
    simp (maxSteps := 1000000) (disch := first | omega | (simp only [lens, List.length_map]; omega)) only [go_sem, ↓reduceIte, Nat.reduceSub, Nat.reduceAdd, Nat.reduceMul, Nat.reduceLeDiff, Nat.reduceLT, Nat.reduceEqDiff, Nat.reduceBEq, Int.reduceLE, Int.reduceLT, Int.reduceEq, Int.reduceNeg, Int.reduceAdd, Int.reduceSub, Int.reduceMul, Int.reduceToNat, i_slices_Clone_sl_byte_byte]

end Go.Proofs.YtdngljdbgepaiaaGreatDoor
