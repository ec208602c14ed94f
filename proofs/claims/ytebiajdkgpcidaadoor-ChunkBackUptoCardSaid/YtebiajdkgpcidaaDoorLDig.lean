/-
  A digest by a width.
-/
import Derived.Test.YtebiajdkgpcidaaDoorLSum
import Derived.Test.YtebiajdkgpcidaaDoorLMade3
import Derived.Test.YtebiajdkgpcidaaDoorLDigest
set_option linter.unusedSimpArgs false
set_option linter.unusedVariables false
set_option maxRecDepth 200000
set_option maxHeartbeats 4000000
namespace Go.Proofs.YtebiajdkgpcidaaDoor
open Go.Ev

def dg (w : Int) (b : List UInt8) : List UInt8 := (shaS b).take w.toNat
theorem dg_len (w : Int) (b : List UInt8) (h : 0 ≤ w ∧ w ≤ 32) : (dg w b).length = w.toNat := by
  rw [dg, List.length_take, shaS_len]; omega
theorem digest_Of_bad (w : Int) (b : List UInt8) (hw : -9223372036854775808 ≤ w ∧ w < 9223372036854775808) (h : ¬ (1 ≤ w ∧ w ≤ 32)) : Ev tab G0 n_digest_Of [i64 w, .sl true (eB b)] [] = some ([.sl true [], errA 1], []) := by
  have h1 := width_ev w hw
  rw [decide_eq_false h] at h1
  refine Ev_run t_digest_Of rfl rfl ?_
  simp (maxSteps := 1000000) (disch := first | omega | (simp only [List.length_cons, List.length_nil, List.length_append, List.length_map, List.length_take, List.length_drop]; omega)) only [go_sem, ↓reduceIte, Nat.reduceSub, Nat.reduceAdd, Nat.reduceMul, Nat.reduceLeDiff, Nat.reduceLT, Nat.reduceEqDiff, Nat.reduceBEq, Int.reduceLE, Int.reduceLT, Int.reduceEq, Int.reduceNeg, Int.reduceAdd, Int.reduceSub, Int.reduceMul, Int.reduceToNat, i_digest_Of, h1]
theorem digest_Of_good (w : Int) (b : List UInt8) (h : 1 ≤ w ∧ w ≤ 32) (hb : b.length ≤ 1048576) : Ev tab G0 n_digest_Of [i64 w, .sl true (eB b)] [] = some ([.sl true (eB (dg w b)), .s .nilIface], []) := by
  have h1 := width_ev w (by omega)
  rw [decide_eq_true h] at h1
  have h2 := sha_Sum_ev b hb
  have h3 := clone_bytes_ev (dg w b) (by rw [dg_len w b (by omega)]; omega)
  have hs := shaS_len b
  rw [dg] at *
  generalize shaS b = s at *
  refine Ev_run t_digest_Of rfl rfl ?_
  simp (maxSteps := 1000000) (disch := first | omega | (simp only [List.length_cons, List.length_nil, List.length_append, List.length_map, List.length_take, List.length_drop]; omega)) only [go_sem, ↓reduceIte, Nat.reduceSub, Nat.reduceAdd, Nat.reduceMul, Nat.reduceLeDiff, Nat.reduceLT, Nat.reduceEqDiff, Nat.reduceBEq, Int.reduceLE, Int.reduceLT, Int.reduceEq, Int.reduceNeg, Int.reduceAdd, Int.reduceSub, Int.reduceMul, Int.reduceToNat, i_digest_Of, h1, h2, h3, hs]
end Go.Proofs.YtebiajdkgpcidaaDoor
