/-
  DigestPreimages: the law, by the evaluator.
-/
import Derived.Test.YtfbipgidlecmkaaLDigest
set_option linter.unusedSimpArgs false
set_option linter.unusedVariables false
set_option maxRecDepth 200000
set_option maxHeartbeats 4000000
namespace Go.Proofs.Ytfbipgidlecmkaa
open Go.Ev

theorem law_DigestPreimages (w : Int) (a b c : List UInt8) (hw : -9223372036854775808 ≤ w ∧ w < 9223372036854775808) (h : a.length + b.length + c.length ≤ 1048576) : ∃ outs, Ev tab G0 n_law03_DigestPreimages [i64 w, .sl true (eB a), .sl true (eB b), .sl true (eB c)] [] = some ([bo true], outs) := by
  refine ⟨[], Ev_run t_law03_DigestPreimages rfl rfl ?_⟩
  have h0 := up03_ev
  have h1 := Value_ev a (by omega)
  have h2 := rValue_ev a (by omega)
  have hm := may_ev w hw
  by_cases hd : 1 ≤ w ∧ w ≤ 32
  · rw [decide_eq_true hd] at hm
    by_cases hb : (b.length : Int) = w
    · have p := Pair_good w a b ⟨hd.1, hd.2, hb⟩ (by omega)
      have rp := rPair_ev a b (by omega)
      by_cases hac : (a.length : Int) = w ∧ (c.length : Int) = w
      · have n := Node_good w a b c ⟨hd.1, hd.2, hac.1, hb, hac.2⟩
        have rn := rNode_ev a b c (by omega)
        simp (maxSteps := 1000000) (disch := first | omega | (simp only [List.length_cons, List.length_nil, List.length_append, List.length_map, List.length_take, List.length_drop]; omega)) only [go_sem, ↓reduceIte, Nat.reduceSub, Nat.reduceAdd, Nat.reduceMul, Nat.reduceLeDiff, Nat.reduceLT, Nat.reduceEqDiff, Nat.reduceBEq, Int.reduceLE, Int.reduceLT, Int.reduceEq, Int.reduceNeg, Int.reduceAdd, Int.reduceSub, Int.reduceMul, Int.reduceToNat, i_law03_DigestPreimages, h0, h1, h2, hm, p, rp, n, rn, hb, hac.1, hac.2]
      · have n := Node_bad w a b c hw (by omega) (by omega)
        by_cases ha : (a.length : Int) = w
        · simp (maxSteps := 1000000) (disch := first | omega | (simp only [List.length_cons, List.length_nil, List.length_append, List.length_map, List.length_take, List.length_drop]; omega)) only [go_sem, ↓reduceIte, Nat.reduceSub, Nat.reduceAdd, Nat.reduceMul, Nat.reduceLeDiff, Nat.reduceLT, Nat.reduceEqDiff, Nat.reduceBEq, Int.reduceLE, Int.reduceLT, Int.reduceEq, Int.reduceNeg, Int.reduceAdd, Int.reduceSub, Int.reduceMul, Int.reduceToNat, i_law03_DigestPreimages, h0, h1, h2, hm, p, rp, n, hb, ha]
        · simp (maxSteps := 1000000) (disch := first | omega | (simp only [List.length_cons, List.length_nil, List.length_append, List.length_map, List.length_take, List.length_drop]; omega)) only [go_sem, ↓reduceIte, Nat.reduceSub, Nat.reduceAdd, Nat.reduceMul, Nat.reduceLeDiff, Nat.reduceLT, Nat.reduceEqDiff, Nat.reduceBEq, Int.reduceLE, Int.reduceLT, Int.reduceEq, Int.reduceNeg, Int.reduceAdd, Int.reduceSub, Int.reduceMul, Int.reduceToNat, i_law03_DigestPreimages, h0, h1, h2, hm, p, rp, n, hb, ha]
    · have p := Pair_bad w a b hw (by omega) (by omega)
      have n := Node_bad w a b c hw (by omega) (by omega)
      simp (maxSteps := 1000000) (disch := first | omega | (simp only [List.length_cons, List.length_nil, List.length_append, List.length_map, List.length_take, List.length_drop]; omega)) only [go_sem, ↓reduceIte, Nat.reduceSub, Nat.reduceAdd, Nat.reduceMul, Nat.reduceLeDiff, Nat.reduceLT, Nat.reduceEqDiff, Nat.reduceBEq, Int.reduceLE, Int.reduceLT, Int.reduceEq, Int.reduceNeg, Int.reduceAdd, Int.reduceSub, Int.reduceMul, Int.reduceToNat, i_law03_DigestPreimages, h0, h1, h2, hm, p, n, hb]
  · rw [decide_eq_false hd] at hm
    have p := Pair_bad w a b hw (by omega) (by omega)
    have n := Node_bad w a b c hw (by omega) (by omega)
    simp (maxSteps := 1000000) (disch := first | omega | (simp only [List.length_cons, List.length_nil, List.length_append, List.length_map, List.length_take, List.length_drop]; omega)) only [go_sem, ↓reduceIte, Nat.reduceSub, Nat.reduceAdd, Nat.reduceMul, Nat.reduceLeDiff, Nat.reduceLT, Nat.reduceEqDiff, Nat.reduceBEq, Int.reduceLE, Int.reduceLT, Int.reduceEq, Int.reduceNeg, Int.reduceAdd, Int.reduceSub, Int.reduceMul, Int.reduceToNat, i_law03_DigestPreimages, h0, h1, h2, hm, p, n]

end Go.Proofs.Ytfbipgidlecmkaa
