/-
  A digest by a width.
-/
import Derived.Test.YtdngljdbgepaiaaGreatDoorLSum
import Derived.Test.YtdngljdbgepaiaaGreatDoorLMade3
import Derived.Test.YtdngljdbgepaiaaGreatDoorLDigest
set_option linter.unusedSimpArgs false
set_option linter.unusedVariables false
set_option maxRecDepth 200000
set_option maxHeartbeats 4000000
namespace Go.Proofs.YtdngljdbgepaiaaGreatDoor
open Go.Ev

def dg (w : Int) (b : List UInt8) : List UInt8 := (shaS b).take w.toNat
theorem dg_len (w : Int) (b : List UInt8) (h : 0 ≤ w ∧ w ≤ 32) : (dg w b).length = w.toNat := by
  rw [dg, List.length_take, shaS_len]; omega
theorem digest_Of_good (w : Int) (b : List UInt8) (h : 1 ≤ w ∧ w ≤ 32) (hb : b.length ≤ 1048576) : Ev tab G0 n_digest_Of [i64 w, .sl true (eB b)] [] = some ([.sl true (eB (dg w b)), .s .nilIface], []) := by
  have h1 := width_ev w (by omega)
  rw [decide_eq_true h] at h1
  have h2 := sha_Sum_ev b hb
  have h3 := clone_bytes_ev (dg w b) (by rw [dg_len w b (by omega)]; omega)
  have hs := shaS_len b
  rw [dg] at *
  generalize shaS b = s at *
  refine Ev_run t_digest_Of rfl rfl ?_
  simp (maxSteps := 1000000) (disch := first | omega | (simp only [lens, List.length_map]; omega)) only [go_sem, ↓reduceIte, Nat.reduceSub, Nat.reduceAdd, Nat.reduceMul, Nat.reduceLeDiff, Nat.reduceLT, Nat.reduceEqDiff, Nat.reduceBEq, Int.reduceLE, Int.reduceLT, Int.reduceEq, Int.reduceNeg, Int.reduceAdd, Int.reduceSub, Int.reduceMul, Int.reduceToNat, i_digest_Of, h1, h2, h3, hs]
theorem ref03_Of_ev (w : Int) (b : List UInt8) (h : 1 ≤ w ∧ w ≤ 32) (hb : b.length ≤ 1048576) : Ev tab G0 n_ref03_Of [avTb tabK V1, i64 w, .sl true (eB b)] [] = some ([.sl true (eB (dg w b))], []) := by
  have h2 := ref01_Sum_ev b hb tabK rfl
  have hs := shaS_len b
  rw [dg] at *
  generalize shaS b = s at *
  try simp (maxSteps := 1000000) (disch := first | omega | (simp only [lens, List.length_map]; omega)) only [go_sem, ↓reduceIte, Nat.reduceSub, Nat.reduceAdd, Nat.reduceMul, Nat.reduceLeDiff, Nat.reduceLT, Nat.reduceEqDiff, Nat.reduceBEq, Int.reduceLE, Int.reduceLT, Int.reduceEq, Int.reduceNeg, Int.reduceAdd, Int.reduceSub, Int.reduceMul, Int.reduceToNat] at h2
  refine Ev_run t_ref03_Of rfl rfl ?_
  simp (maxSteps := 1000000) (disch := first | omega | (simp only [lens, List.length_map]; omega)) only [go_sem, ↓reduceIte, Nat.reduceSub, Nat.reduceAdd, Nat.reduceMul, Nat.reduceLeDiff, Nat.reduceLT, Nat.reduceEqDiff, Nat.reduceBEq, Int.reduceLE, Int.reduceLT, Int.reduceEq, Int.reduceNeg, Int.reduceAdd, Int.reduceSub, Int.reduceMul, Int.reduceToNat, i_ref03_Of, h2, hs]

end Go.Proofs.YtdngljdbgepaiaaGreatDoor
