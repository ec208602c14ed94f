/-
  The pairs of a tree in a span: the law.
-/
import Derived.Test.YtebiajdkgpcidaaLRange
import Derived.Test.YtebiajdkgpcidaaLAvl8
set_option linter.unusedSimpArgs false
set_option linter.unusedVariables false
set_option maxRecDepth 200000
set_option maxHeartbeats 4000000
namespace Go.Proofs.Ytebiajdkgpcidaa
open Go.Ev

theorem law_ScanRanges (t : T) (f g : List UInt8) (o : Bool) (hs : t.size ≤ 1048576) : ∃ outs, Ev tab G0 n_law06_ScanRanges [avT t, avSpan f g o] [] = some ([bo true], outs) := by
  have h0 := up06_ev
  have h1 := ref04_Light_ev t 300 100 (by omega) (by omega) hs
  have h3 := ref05_Is_ev t hs
  refine ⟨[], Ev_run t_law06_ScanRanges rfl rfl ?_⟩
  by_cases hl : t.light 300 100 < 0
  · simp (maxSteps := 1000000) (disch := first | omega | (simp only [List.length_cons, List.length_nil, List.length_append, List.length_map, List.length_take, List.length_drop]; omega)) only [go_sem, ↓reduceIte, Nat.reduceSub, Nat.reduceAdd, Nat.reduceMul, Nat.reduceLeDiff, Nat.reduceLT, Nat.reduceEqDiff, Nat.reduceBEq, Int.reduceLE, Int.reduceLT, Int.reduceEq, Int.reduceNeg, Int.reduceAdd, Int.reduceSub, Int.reduceMul, Int.reduceToNat, i_law06_ScanRanges, h0, h1]
  · cases hi : t.isA
    · have h2 := scan_Range_bad t hs f g o hi
      rw [hi] at h3
      simp (maxSteps := 1000000) (disch := first | omega | (simp only [List.length_cons, List.length_nil, List.length_append, List.length_map, List.length_take, List.length_drop]; omega)) only [go_sem, ↓reduceIte, Nat.reduceSub, Nat.reduceAdd, Nat.reduceMul, Nat.reduceLeDiff, Nat.reduceLT, Nat.reduceEqDiff, Nat.reduceBEq, Int.reduceLE, Int.reduceLT, Int.reduceEq, Int.reduceNeg, Int.reduceAdd, Int.reduceSub, Int.reduceMul, Int.reduceToNat, i_law06_ScanRanges, h0, h1, h2, h3]
    · have h2 := scan_Range_ev t hs f g o hi
      have h4 := ref06_Range_ev t hs f g o hi
      have hf := chk_formed (isA_chk hi)
      have hz := rngL_len f g o t.list
      have hl := list_size t hf
      have h5 := ref06_Same_ev (rngL f g o t.list) (rngL f g o t.list) (by omega) (by omega)
      rw [sameP_self] at h5
      rw [hi] at h3
      generalize rngL f g o t.list = z at *
      simp (maxSteps := 1000000) (disch := first | omega | (simp only [List.length_cons, List.length_nil, List.length_append, List.length_map, List.length_take, List.length_drop]; omega)) only [go_sem, ↓reduceIte, Nat.reduceSub, Nat.reduceAdd, Nat.reduceMul, Nat.reduceLeDiff, Nat.reduceLT, Nat.reduceEqDiff, Nat.reduceBEq, Int.reduceLE, Int.reduceLT, Int.reduceEq, Int.reduceNeg, Int.reduceAdd, Int.reduceSub, Int.reduceMul, Int.reduceToNat, i_law06_ScanRanges, h0, h1, h2, h3, h4, h5]

end Go.Proofs.Ytebiajdkgpcidaa
