/-
  CoderBytes: the law, by the evaluator.
-/
import Derived.Test.YtfbipgidlecmkaaLCoder
set_option linter.unusedSimpArgs false
set_option linter.unusedVariables false
set_option maxRecDepth 200000
set_option maxHeartbeats 4000000
namespace Go.Proofs.Ytfbipgidlecmkaa
open Go.Ev

theorem law_CoderBytes (b : List UInt8) (h : b.length ≤ 1048576) : ∃ outs, Ev tab G0 n_law02_CoderBytes [.sl true (eB b)] [] = some ([bo true], outs) := by
  have h0 := coder_Bytes_ev [byt 97] (by simp)
  have e0 : byts [byt 97] = [1, 97] := by decide
  rw [e0] at h0
  have h1 := coder_Bytes_ev b (by omega)
  have h2 := ref02_Bytes_ev b (by omega)
  refine ⟨[], Ev_run t_law02_CoderBytes rfl rfl ?_⟩
  simp (maxSteps := 1000000) (disch := first | omega | (simp only [List.length_cons, List.length_nil, List.length_append, List.length_map, List.length_take, List.length_drop]; omega)) only [go_sem, ↓reduceIte, Nat.reduceSub, Nat.reduceAdd, Nat.reduceMul, Nat.reduceLeDiff, Nat.reduceLT, Nat.reduceEqDiff, Nat.reduceBEq, Int.reduceLE, Int.reduceLT, Int.reduceEq, Int.reduceNeg, Int.reduceAdd, Int.reduceSub, Int.reduceMul, Int.reduceToNat, i_law02_CoderBytes, h0, h1, h2]

end Go.Proofs.Ytfbipgidlecmkaa
