/-
  The digest of any tree by any width: the law.
-/
import Derived.Test.YtebiajdkgpcidaaDoorLSmall4
set_option linter.unusedSimpArgs false
set_option linter.unusedVariables false
set_option maxRecDepth 200000
set_option maxHeartbeats 4000000
namespace Go.Proofs.YtebiajdkgpcidaaDoor
open Go.Ev

theorem law_TreeDigests (w : Int) (t : T) (hw : -9223372036854775808 ≤ w ∧ w < 9223372036854775808) (hs : t.size ≤ 1048576) : ∃ outs, Ev tab G0 n_law04_TreeDigests [i64 w, avT t] [] = some ([bo true], outs) := by
  have h0 := up04_ev
  have h1 := small04_ev t hs
  have h2 := ref04_Check_ev t hs
  refine ⟨[], Ev_run t_law04_TreeDigests rfl rfl ?_⟩
  cases hl : decide (0 ≤ t.light 500 200)
  · rw [hl] at h1
    simp (maxSteps := 1000000) (disch := first | omega | (simp only [List.length_cons, List.length_nil, List.length_append, List.length_map, List.length_take, List.length_drop]; omega)) only [go_sem, ↓reduceIte, Nat.reduceSub, Nat.reduceAdd, Nat.reduceMul, Nat.reduceLeDiff, Nat.reduceLT, Nat.reduceEqDiff, Nat.reduceBEq, Int.reduceLE, Int.reduceLT, Int.reduceEq, Int.reduceNeg, Int.reduceAdd, Int.reduceSub, Int.reduceMul, Int.reduceToNat, i_law04_TreeDigests, h0, h1]
  · rw [hl] at h1
    by_cases hg : 1 ≤ w ∧ w ≤ 32
    · have h3 := tree_Digest_ev w hg t hs
      by_cases hc : t.chk = 0
      · rw [if_pos hc] at h3
        rw [hc] at h2
        have h4 := rdig_ev w hg t (chk_formed hc) hs
        have h5 := ref01_Made_ev
        try simp (maxSteps := 1000000) (disch := first | omega | (simp only [List.length_cons, List.length_nil, List.length_append, List.length_map, List.length_take, List.length_drop]; omega)) only [go_sem, ↓reduceIte, Nat.reduceSub, Nat.reduceAdd, Nat.reduceMul, Nat.reduceLeDiff, Nat.reduceLT, Nat.reduceEqDiff, Nat.reduceBEq, Int.reduceLE, Int.reduceLT, Int.reduceEq, Int.reduceNeg, Int.reduceAdd, Int.reduceSub, Int.reduceMul, Int.reduceToNat] at h4
        cases hd : t.dig w with
        | none =>
          rw [hd] at h3 h4
          generalize rgV w t = z at *
          simp only [dgV, dgE, Option.isSome] at h3 h4
          simp (maxSteps := 1000000) (disch := first | omega | (simp only [List.length_cons, List.length_nil, List.length_append, List.length_map, List.length_take, List.length_drop]; omega)) only [go_sem, ↓reduceIte, Nat.reduceSub, Nat.reduceAdd, Nat.reduceMul, Nat.reduceLeDiff, Nat.reduceLT, Nat.reduceEqDiff, Nat.reduceBEq, Int.reduceLE, Int.reduceLT, Int.reduceEq, Int.reduceNeg, Int.reduceAdd, Int.reduceSub, Int.reduceMul, Int.reduceToNat, i_law04_TreeDigests, h0, h1, h2, h3, h4, h5]
        | some d =>
          rw [rgV_some hd] at h4
          rw [hd] at h3 h4
          simp only [dgV, dgE, Option.isSome] at h3 h4
          have hdd : (d == d) = true := beq_self_eq_true _
          simp (maxSteps := 1000000) (disch := first | omega | (simp only [List.length_cons, List.length_nil, List.length_append, List.length_map, List.length_take, List.length_drop]; omega)) only [go_sem, ↓reduceIte, Nat.reduceSub, Nat.reduceAdd, Nat.reduceMul, Nat.reduceLeDiff, Nat.reduceLT, Nat.reduceEqDiff, Nat.reduceBEq, Int.reduceLE, Int.reduceLT, Int.reduceEq, Int.reduceNeg, Int.reduceAdd, Int.reduceSub, Int.reduceMul, Int.reduceToNat, i_law04_TreeDigests, h0, h1, h2, h3, h4, h5, hdd]
      · rw [if_neg hc] at h3
        have hcc := chk_cases t
        have h4 := law00_Code_ev t.chk (by omega)
        have e : errV t.chk = errA t.chk := if_neg hc
        rw [e] at h4
        generalize t.chk = c at *
        simp (maxSteps := 1000000) (disch := first | omega | (simp only [List.length_cons, List.length_nil, List.length_append, List.length_map, List.length_take, List.length_drop]; omega)) only [go_sem, ↓reduceIte, Nat.reduceSub, Nat.reduceAdd, Nat.reduceMul, Nat.reduceLeDiff, Nat.reduceLT, Nat.reduceEqDiff, Nat.reduceBEq, Int.reduceLE, Int.reduceLT, Int.reduceEq, Int.reduceNeg, Int.reduceAdd, Int.reduceSub, Int.reduceMul, Int.reduceToNat, i_law04_TreeDigests, h0, h1, h2, h3, h4, hc]
    · have h3 := tree_Digest_arg w hw hg t
      by_cases h1w : w < 1
      · simp (maxSteps := 1000000) (disch := first | omega | (simp only [List.length_cons, List.length_nil, List.length_append, List.length_map, List.length_take, List.length_drop]; omega)) only [go_sem, ↓reduceIte, Nat.reduceSub, Nat.reduceAdd, Nat.reduceMul, Nat.reduceLeDiff, Nat.reduceLT, Nat.reduceEqDiff, Nat.reduceBEq, Int.reduceLE, Int.reduceLT, Int.reduceEq, Int.reduceNeg, Int.reduceAdd, Int.reduceSub, Int.reduceMul, Int.reduceToNat, i_law04_TreeDigests, h0, h1, h3]
      · simp (maxSteps := 1000000) (disch := first | omega | (simp only [List.length_cons, List.length_nil, List.length_append, List.length_map, List.length_take, List.length_drop]; omega)) only [go_sem, ↓reduceIte, Nat.reduceSub, Nat.reduceAdd, Nat.reduceMul, Nat.reduceLeDiff, Nat.reduceLT, Nat.reduceEqDiff, Nat.reduceBEq, Int.reduceLE, Int.reduceLT, Int.reduceEq, Int.reduceNeg, Int.reduceAdd, Int.reduceSub, Int.reduceMul, Int.reduceToNat, i_law04_TreeDigests, h0, h1, h3]

end Go.Proofs.YtebiajdkgpcidaaDoor
