/-
  What stands behind bytes, by the evaluator.
-/
import Derived.Test.YtdngljdbgepaiaaGreatDoorLNum
import Derived.Test.YtdngljdbgepaiaaGreatDoorLCode0
set_option linter.unusedSimpArgs false
set_option linter.unusedVariables false
set_option maxRecDepth 200000
set_option maxHeartbeats 4000000
namespace Go.Proofs.YtdngljdbgepaiaaGreatDoor
open Go.Ev

/-- The zeros, then the bits' number. -/
def tailB (n : Int) : List UInt8 := 128 :: (List.replicate ((55 - n) % 64).toNat 0 ++ beB 8 (8 * n))
abbrev rowB (l : List UInt8) : Option Ev.Obj := some (.row ty_uint8 1 true false (eB l))
theorem tail_loop0 (n : Int) (hn : 0 ≤ n ∧ n ≤ 1125899906842624) : ∀ (k : Nat) (l : List UInt8), (n + l.length + k) % 64 = 56 → k < 64 → l.length + k < 200 → L_sha_Tail_0 (s_sha_Tail_K0 (i64 n) (.row 0 l.length) [rowB l]) = some (.exit 0, s_sha_Tail_J0 (i64 n) (.row 0 (l.length + k)) [rowB (l ++ List.replicate k 0)])
  | 0, l, h1, h2, h3 => by
    rw [L_sha_Tail_0_eq]
    simp (maxSteps := 1000000) (disch := first | omega | (simp only [lens, List.length_map]; omega)) only [go_sem, ↓reduceIte, Nat.reduceSub, Nat.reduceAdd, Nat.reduceMul, Nat.reduceLeDiff, Nat.reduceLT, Nat.reduceEqDiff, Nat.reduceBEq, Int.reduceLE, Int.reduceLT, Int.reduceEq, Int.reduceNeg, Int.reduceAdd, Int.reduceSub, Int.reduceMul, Int.reduceToNat, i_sha_Tail_b0]
  | k + 1, l, h1, h2, h3 => by
    have ih := tail_loop0 n hn k (l ++ [0]) (by simp only [List.length_append, List.length_cons, List.length_nil]; omega) (by omega) (by simp; omega)
    have e : byt 0 = 0 := rfl
    try simp (maxSteps := 1000000) (disch := first | omega | (simp only [lens, List.length_map]; omega)) only [go_sem, ↓reduceIte, Nat.reduceSub, Nat.reduceAdd, Nat.reduceMul, Nat.reduceLeDiff, Nat.reduceLT, Nat.reduceEqDiff, Nat.reduceBEq, Int.reduceLE, Int.reduceLT, Int.reduceEq, Int.reduceNeg, Int.reduceAdd, Int.reduceSub, Int.reduceMul, Int.reduceToNat] at ih
    rw [L_sha_Tail_0_eq]
    simp (maxSteps := 1000000) (disch := first | omega | (simp only [lens, List.length_map]; omega)) only [go_sem, ↓reduceIte, Nat.reduceSub, Nat.reduceAdd, Nat.reduceMul, Nat.reduceLeDiff, Nat.reduceLT, Nat.reduceEqDiff, Nat.reduceBEq, Int.reduceLE, Int.reduceLT, Int.reduceEq, Int.reduceNeg, Int.reduceAdd, Int.reduceSub, Int.reduceMul, Int.reduceToNat, i_sha_Tail_b0, e, ih, Nat.add_assoc, Nat.add_comm 1 k]
theorem tail_loop1 (n : Int) (hn : 0 ≤ n ∧ n ≤ 1125899906842624) : ∀ (k : Nat) (l : List UInt8), k ≤ 8 → l.length + k < 200 → L_sha_Tail_1 (s_sha_Tail_K1 (i64 n) (.row 0 l.length) (i64 (8 * k - 8)) [rowB l]) = some (.exit 2, s_sha_Tail_J2 (.row 0 (l.length + k)) [rowB (l ++ dgs (8 * n) k)])
  | 0, l, h1, h2 => by
    rw [L_sha_Tail_1_eq]
    simp (maxSteps := 1000000) (disch := first | omega | (simp only [lens, List.length_map]; omega)) only [go_sem, ↓reduceIte, Nat.reduceSub, Nat.reduceAdd, Nat.reduceMul, Nat.reduceLeDiff, Nat.reduceLT, Nat.reduceEqDiff, Nat.reduceBEq, Int.reduceLE, Int.reduceLT, Int.reduceEq, Int.reduceNeg, Int.reduceAdd, Int.reduceSub, Int.reduceMul, Int.reduceToNat, i_sha_Tail_b1, dgs]
  | k + 1, l, h1, h2 => by
    have ih := tail_loop1 n hn k (l ++ [byt ((8 * n).fdiv (2 ^ (min (8 * (k : Int)).toNat 64)))]) (by omega) (by simp; omega)
    have e : 8 * ((k : Int) + 1) - 8 = 8 * k := by omega
    try simp (maxSteps := 1000000) (disch := first | omega | (simp only [lens, List.length_map]; omega)) only [go_sem, ↓reduceIte, Nat.reduceSub, Nat.reduceAdd, Nat.reduceMul, Nat.reduceLeDiff, Nat.reduceLT, Nat.reduceEqDiff, Nat.reduceBEq, Int.reduceLE, Int.reduceLT, Int.reduceEq, Int.reduceNeg, Int.reduceAdd, Int.reduceSub, Int.reduceMul, Int.reduceToNat] at ih
    rw [L_sha_Tail_1_eq]
    simp (maxSteps := 1000000) (disch := first | omega | (simp only [lens, List.length_map]; omega)) only [go_sem, ↓reduceIte, Nat.reduceSub, Nat.reduceAdd, Nat.reduceMul, Nat.reduceLeDiff, Nat.reduceLT, Nat.reduceEqDiff, Nat.reduceBEq, Int.reduceLE, Int.reduceLT, Int.reduceEq, Int.reduceNeg, Int.reduceAdd, Int.reduceSub, Int.reduceMul, Int.reduceToNat, i_sha_Tail_b1, dgs, e, ih, Nat.add_assoc, Nat.add_comm 1 k]
theorem sha_Tail_good (n : Int) (h : 0 ≤ n ∧ n ≤ 1125899906842624) : Ev tab G0 n_sha_Tail [i64 n] [] = some ([.sl true (eB (tailB n)), .s .nilIface], []) := by
  have h0 := tail_loop0 n h ((55 - n) % 64).toNat [128] (by simp; omega) (by omega) (by simp; omega)
  have h1 := tail_loop1 n h 8 ([128] ++ List.replicate ((55 - n) % 64).toNat 0) (by omega) (by simp; omega)
  rw [dgs_eq _ _ (by omega)] at h1
  have e : byt 128 = 128 := rfl
  try simp (maxSteps := 1000000) (disch := first | omega | (simp only [lens, List.length_map]; omega)) only [go_sem, ↓reduceIte, Nat.reduceSub, Nat.reduceAdd, Nat.reduceMul, Nat.reduceLeDiff, Nat.reduceLT, Nat.reduceEqDiff, Nat.reduceBEq, Int.reduceLE, Int.reduceLT, Int.reduceEq, Int.reduceNeg, Int.reduceAdd, Int.reduceSub, Int.reduceMul, Int.reduceToNat] at h0
  simp only [List.length_append, List.length_replicate] at h1
  try simp (maxSteps := 1000000) (disch := first | omega | (simp only [lens, List.length_map]; omega)) only [go_sem, ↓reduceIte, Nat.reduceSub, Nat.reduceAdd, Nat.reduceMul, Nat.reduceLeDiff, Nat.reduceLT, Nat.reduceEqDiff, Nat.reduceBEq, Int.reduceLE, Int.reduceLT, Int.reduceEq, Int.reduceNeg, Int.reduceAdd, Int.reduceSub, Int.reduceMul, Int.reduceToNat] at h1
  refine Ev_run t_sha_Tail rfl rfl ?_
  simp (maxSteps := 1000000) (disch := first | omega | (simp only [lens, List.length_map]; omega)) only [go_sem, ↓reduceIte, Nat.reduceSub, Nat.reduceAdd, Nat.reduceMul, Nat.reduceLeDiff, Nat.reduceLT, Nat.reduceEqDiff, Nat.reduceBEq, Int.reduceLE, Int.reduceLT, Int.reduceEq, Int.reduceNeg, Int.reduceAdd, Int.reduceSub, Int.reduceMul, Int.reduceToNat, i_sha_Tail, e, h0, h1, tailB, List.length_replicate, beB_len]
theorem rtail_loop0 (n : Int) (hn : 0 ≤ n ∧ n ≤ 1125899906842624) : ∀ (k : Nat) (l : List UInt8), (n + l.length + k) % 64 = 56 → k < 64 → l.length + k < 200 → L_ref01_Tail_0 (s_ref01_Tail_K0 (i64 n) (.row 0 l.length) [rowB l, none]) = some (.exit 0, s_ref01_Tail_J0 (i64 n) (.row 0 (l.length + k)) [rowB (l ++ List.replicate k 0), none])
  | 0, l, h1, h2, h3 => by
    rw [L_ref01_Tail_0_eq]
    simp (maxSteps := 1000000) (disch := first | omega | (simp only [lens, List.length_map]; omega)) only [go_sem, ↓reduceIte, Nat.reduceSub, Nat.reduceAdd, Nat.reduceMul, Nat.reduceLeDiff, Nat.reduceLT, Nat.reduceEqDiff, Nat.reduceBEq, Int.reduceLE, Int.reduceLT, Int.reduceEq, Int.reduceNeg, Int.reduceAdd, Int.reduceSub, Int.reduceMul, Int.reduceToNat, i_ref01_Tail_b0]
  | k + 1, l, h1, h2, h3 => by
    have ih := rtail_loop0 n hn k (l ++ [0]) (by simp only [List.length_append, List.length_cons, List.length_nil]; omega) (by omega) (by simp; omega)
    have e : byt 0 = 0 := rfl
    try simp (maxSteps := 1000000) (disch := first | omega | (simp only [lens, List.length_map]; omega)) only [go_sem, ↓reduceIte, Nat.reduceSub, Nat.reduceAdd, Nat.reduceMul, Nat.reduceLeDiff, Nat.reduceLT, Nat.reduceEqDiff, Nat.reduceBEq, Int.reduceLE, Int.reduceLT, Int.reduceEq, Int.reduceNeg, Int.reduceAdd, Int.reduceSub, Int.reduceMul, Int.reduceToNat] at ih
    rw [L_ref01_Tail_0_eq]
    simp (maxSteps := 1000000) (disch := first | omega | (simp only [lens, List.length_map]; omega)) only [go_sem, ↓reduceIte, Nat.reduceSub, Nat.reduceAdd, Nat.reduceMul, Nat.reduceLeDiff, Nat.reduceLT, Nat.reduceEqDiff, Nat.reduceBEq, Int.reduceLE, Int.reduceLT, Int.reduceEq, Int.reduceNeg, Int.reduceAdd, Int.reduceSub, Int.reduceMul, Int.reduceToNat, i_ref01_Tail_b0, e, ih, Nat.add_assoc, Nat.add_comm 1 k]
theorem rtail_loop1 (l0 : List UInt8) : ∀ (k : Nat) (s : List UInt8) (v : Int), 0 ≤ v → v < 18446744073709551616 → k + s.length = 8 → L_ref01_Tail_1 (s_ref01_Tail_K1 (.row 0 l0.length) (.row 1 8) (u64 v) (i64 (k - 1)) [rowB l0, rowB (List.replicate k 0 ++ s)]) = some (.exit 2, s_ref01_Tail_J2 (.row 0 l0.length) (.row 1 8) [rowB l0, rowB (beB k v ++ s)])
  | 0, s, v, h0, h1, h2 => by
    rw [L_ref01_Tail_1_eq]
    simp only [Nat.zero_add] at h2
    simp (maxSteps := 1000000) (disch := first | omega | (simp only [lens, List.length_map]; omega)) only [go_sem, ↓reduceIte, Nat.reduceSub, Nat.reduceAdd, Nat.reduceMul, Nat.reduceLeDiff, Nat.reduceLT, Nat.reduceEqDiff, Nat.reduceBEq, Int.reduceLE, Int.reduceLT, Int.reduceEq, Int.reduceNeg, Int.reduceAdd, Int.reduceSub, Int.reduceMul, Int.reduceToNat, i_ref01_Tail_b1, beB, h2]
  | k + 1, s, v, h0, h1, h2 => by
    have ih := rtail_loop1 l0 k (byt v :: s) (v / 256) (by omega) (by omega) (by simp; omega)
    have e : (k : Int) + 1 - 1 = k := by omega
    have e2 : (List.replicate (k + 1) (0 : UInt8) ++ s).set k (byt v) = List.replicate k 0 ++ byt v :: s := by
      rw [List.set_append_left _ _ (by simp), List.replicate_succ']
      rw [List.set_append_right _ _ (by simp)]
      simp
    have e3 : (List.replicate (k + 1) (0 : UInt8) ++ s).length = 8 := by simp; omega
    try simp (maxSteps := 1000000) (disch := first | omega | (simp only [lens, List.length_map]; omega)) only [go_sem, ↓reduceIte, Nat.reduceSub, Nat.reduceAdd, Nat.reduceMul, Nat.reduceLeDiff, Nat.reduceLT, Nat.reduceEqDiff, Nat.reduceBEq, Int.reduceLE, Int.reduceLT, Int.reduceEq, Int.reduceNeg, Int.reduceAdd, Int.reduceSub, Int.reduceMul, Int.reduceToNat] at ih
    rw [L_ref01_Tail_1_eq]
    generalize List.replicate (k + 1) (0 : UInt8) ++ s = z at *
    simp (maxSteps := 1000000) (disch := first | omega | (simp only [lens, List.length_map]; omega)) only [go_sem, ↓reduceIte, Nat.reduceSub, Nat.reduceAdd, Nat.reduceMul, Nat.reduceLeDiff, Nat.reduceLT, Nat.reduceEqDiff, Nat.reduceBEq, Int.reduceLE, Int.reduceLT, Int.reduceEq, Int.reduceNeg, Int.reduceAdd, Int.reduceSub, Int.reduceMul, Int.reduceToNat, i_ref01_Tail_b1, beB, e, e2, e3, ih, byt_mod]
theorem ref01_Tail_ev (n : Int) (h : 0 ≤ n ∧ n ≤ 1125899906842624) : Ev tab G0 n_ref01_Tail [i64 n] [] = some ([.sl true (eB (tailB n))], []) := by
  have h0 := rtail_loop0 n h ((55 - n) % 64).toNat [128] (by simp; omega) (by omega) (by simp; omega)
  have h1 := rtail_loop1 ([128] ++ List.replicate ((55 - n) % 64).toNat 0) 8 [] (8 * n) (by omega) (by omega) rfl
  have e : byt 128 = 128 := rfl
  have e0 : byt 0 = 0 := rfl
  try simp (maxSteps := 1000000) (disch := first | omega | (simp only [lens, List.length_map]; omega)) only [go_sem, ↓reduceIte, Nat.reduceSub, Nat.reduceAdd, Nat.reduceMul, Nat.reduceLeDiff, Nat.reduceLT, Nat.reduceEqDiff, Nat.reduceBEq, Int.reduceLE, Int.reduceLT, Int.reduceEq, Int.reduceNeg, Int.reduceAdd, Int.reduceSub, Int.reduceMul, Int.reduceToNat] at h0
  simp only [List.length_append, List.length_replicate] at h1
  try simp (maxSteps := 1000000) (disch := first | omega | (simp only [lens, List.length_map]; omega)) only [go_sem, ↓reduceIte, Nat.reduceSub, Nat.reduceAdd, Nat.reduceMul, Nat.reduceLeDiff, Nat.reduceLT, Nat.reduceEqDiff, Nat.reduceBEq, Int.reduceLE, Int.reduceLT, Int.reduceEq, Int.reduceNeg, Int.reduceAdd, Int.reduceSub, Int.reduceMul, Int.reduceToNat] at h1
  refine Ev_run t_ref01_Tail rfl rfl ?_
  simp (maxSteps := 1000000) (disch := first | omega | (simp only [lens, List.length_map]; omega)) only [go_sem, ↓reduceIte, Nat.reduceSub, Nat.reduceAdd, Nat.reduceMul, Nat.reduceLeDiff, Nat.reduceLT, Nat.reduceEqDiff, Nat.reduceBEq, Int.reduceLE, Int.reduceLT, Int.reduceEq, Int.reduceNeg, Int.reduceAdd, Int.reduceSub, Int.reduceMul, Int.reduceToNat, i_ref01_Tail, e, e0, h0, h1, tailB, List.length_replicate, beB_len]

end Go.Proofs.YtdngljdbgepaiaaGreatDoor
