/-
  DigestOf: the law, by the evaluator.
-/
import Derived.Test.YtfbipgidlecmkaaDoorLDig
set_option linter.unusedSimpArgs false
set_option linter.unusedVariables false
set_option maxRecDepth 200000
set_option maxHeartbeats 4000000
namespace Go.Proofs.YtfbipgidlecmkaaDoor
open Go.Ev

theorem DigestOf_run (w : Int) (hw : -9223372036854775808 ≤ w ∧ w < 9223372036854775808) (b b' : List UInt8) (hb : b.length ≤ 1048576) (hb' : b' = if 5000 < b.length then b.take 5000 else b) : ∃ outs, Ev tab G0 n_law03_DigestOf [i64 w, .sl true (eB b)] [] = some ([bo true], outs) := by
  have h0 := ref01_Made_ev
  have hu := up03_ev
  have hm := may_ev w hw
  have hl : b'.length ≤ 1048576 := by subst hb'; split <;> (try rw [List.length_take]) <;> omega
  refine ⟨[], Ev_run t_law03_DigestOf rfl rfl ?_⟩
  by_cases h : 1 ≤ w ∧ w ≤ 32
  · rw [decide_eq_true h] at hm
    have h1 := digest_Of_good w b' h hl
    have h2 := ref03_Of_ev w b' h hl
    generalize dg w b' = d at *
    try simp (maxSteps := 1000000) (disch := first | omega | (simp only [List.length_cons, List.length_nil, List.length_append, List.length_map, List.length_take, List.length_drop]; omega)) only [go_sem, ↓reduceIte, Nat.reduceSub, Nat.reduceAdd, Nat.reduceMul, Nat.reduceLeDiff, Nat.reduceLT, Nat.reduceEqDiff, Nat.reduceBEq, Int.reduceLE, Int.reduceLT, Int.reduceEq, Int.reduceNeg, Int.reduceAdd, Int.reduceSub, Int.reduceMul, Int.reduceToNat] at h2
    by_cases h5 : 5000 < b.length
    · rw [if_pos h5] at hb'
      subst hb'
      try simp (maxSteps := 1000000) (disch := first | omega | (simp only [List.length_cons, List.length_nil, List.length_append, List.length_map, List.length_take, List.length_drop]; omega)) only [go_sem, ↓reduceIte, Nat.reduceSub, Nat.reduceAdd, Nat.reduceMul, Nat.reduceLeDiff, Nat.reduceLT, Nat.reduceEqDiff, Nat.reduceBEq, Int.reduceLE, Int.reduceLT, Int.reduceEq, Int.reduceNeg, Int.reduceAdd, Int.reduceSub, Int.reduceMul, Int.reduceToNat] at h1
      try simp (maxSteps := 1000000) (disch := first | omega | (simp only [List.length_cons, List.length_nil, List.length_append, List.length_map, List.length_take, List.length_drop]; omega)) only [go_sem, ↓reduceIte, Nat.reduceSub, Nat.reduceAdd, Nat.reduceMul, Nat.reduceLeDiff, Nat.reduceLT, Nat.reduceEqDiff, Nat.reduceBEq, Int.reduceLE, Int.reduceLT, Int.reduceEq, Int.reduceNeg, Int.reduceAdd, Int.reduceSub, Int.reduceMul, Int.reduceToNat] at h2
      simp (maxSteps := 1000000) (disch := first | omega | (simp only [List.length_cons, List.length_nil, List.length_append, List.length_map, List.length_take, List.length_drop]; omega)) only [go_sem, ↓reduceIte, Nat.reduceSub, Nat.reduceAdd, Nat.reduceMul, Nat.reduceLeDiff, Nat.reduceLT, Nat.reduceEqDiff, Nat.reduceBEq, Int.reduceLE, Int.reduceLT, Int.reduceEq, Int.reduceNeg, Int.reduceAdd, Int.reduceSub, Int.reduceMul, Int.reduceToNat, i_law03_DigestOf, h0, hu, hm, h1, h2]
    · rw [if_neg h5] at hb'
      subst hb'
      simp (maxSteps := 1000000) (disch := first | omega | (simp only [List.length_cons, List.length_nil, List.length_append, List.length_map, List.length_take, List.length_drop]; omega)) only [go_sem, ↓reduceIte, Nat.reduceSub, Nat.reduceAdd, Nat.reduceMul, Nat.reduceLeDiff, Nat.reduceLT, Nat.reduceEqDiff, Nat.reduceBEq, Int.reduceLE, Int.reduceLT, Int.reduceEq, Int.reduceNeg, Int.reduceAdd, Int.reduceSub, Int.reduceMul, Int.reduceToNat, i_law03_DigestOf, h0, hu, hm, h1, h2]
  · rw [decide_eq_false h] at hm
    have h1 := digest_Of_bad w b' hw h
    by_cases h5 : 5000 < b.length
    · rw [if_pos h5] at hb'
      subst hb'
      try simp (maxSteps := 1000000) (disch := first | omega | (simp only [List.length_cons, List.length_nil, List.length_append, List.length_map, List.length_take, List.length_drop]; omega)) only [go_sem, ↓reduceIte, Nat.reduceSub, Nat.reduceAdd, Nat.reduceMul, Nat.reduceLeDiff, Nat.reduceLT, Nat.reduceEqDiff, Nat.reduceBEq, Int.reduceLE, Int.reduceLT, Int.reduceEq, Int.reduceNeg, Int.reduceAdd, Int.reduceSub, Int.reduceMul, Int.reduceToNat] at h1
      simp (maxSteps := 1000000) (disch := first | omega | (simp only [List.length_cons, List.length_nil, List.length_append, List.length_map, List.length_take, List.length_drop]; omega)) only [go_sem, ↓reduceIte, Nat.reduceSub, Nat.reduceAdd, Nat.reduceMul, Nat.reduceLeDiff, Nat.reduceLT, Nat.reduceEqDiff, Nat.reduceBEq, Int.reduceLE, Int.reduceLT, Int.reduceEq, Int.reduceNeg, Int.reduceAdd, Int.reduceSub, Int.reduceMul, Int.reduceToNat, i_law03_DigestOf, hu, hm, h1]
    · rw [if_neg h5] at hb'
      subst hb'
      simp (maxSteps := 1000000) (disch := first | omega | (simp only [List.length_cons, List.length_nil, List.length_append, List.length_map, List.length_take, List.length_drop]; omega)) only [go_sem, ↓reduceIte, Nat.reduceSub, Nat.reduceAdd, Nat.reduceMul, Nat.reduceLeDiff, Nat.reduceLT, Nat.reduceEqDiff, Nat.reduceBEq, Int.reduceLE, Int.reduceLT, Int.reduceEq, Int.reduceNeg, Int.reduceAdd, Int.reduceSub, Int.reduceMul, Int.reduceToNat, i_law03_DigestOf, hu, hm, h1]
theorem law_DigestOf (w : Int) (b : List UInt8) (hw : -9223372036854775808 ≤ w ∧ w < 9223372036854775808) (hb : b.length ≤ 1048576) : ∃ outs, Ev tab G0 n_law03_DigestOf [i64 w, .sl true (eB b)] [] = some ([bo true], outs) := DigestOf_run w hw b _ hb rfl

end Go.Proofs.YtfbipgidlecmkaaDoor
