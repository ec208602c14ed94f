/-
  A tree in which parts are told by their digests: the law.
-/
import Derived.Test.YtebiajdkgpcidaaDoorLSmall4
import Derived.Test.YtebiajdkgpcidaaDoorLCut4
set_option linter.unusedSimpArgs false
set_option linter.unusedVariables false
set_option maxRecDepth 200000
set_option maxHeartbeats 4000000
namespace Go.Proofs.YtebiajdkgpcidaaDoor
open Go.Ev

theorem law_TreeHides (w : Int) (t : T) (k : Int) (dark : Bool) (hw : -9223372036854775808 ≤ w ∧ w < 9223372036854775808) (hs : t.size ≤ 1048576) (hk : -9223372036854775808 ≤ k ∧ k < 9223372036854775808) : ∃ outs, Ev tab G0 n_law04_TreeHides [i64 w, avT t, i64 k, bo dark] [] = some ([bo true], outs) := by
  have h0 := up04_ev
  have h1 := small04_ev t hs
  refine ⟨[], Ev_run t_law04_TreeHides rfl rfl ?_⟩
  by_cases hg : 1 ≤ w ∧ w ≤ 32
  · have h3 := tree_Digest_ev w hg t hs
    by_cases hc : t.chk = 0
    · rw [if_pos hc] at h3
      cases hd : t.dig w with
      | none =>
        rw [hd] at h3
        simp only [dgV, dgE] at h3
        cases hl : decide (0 ≤ t.light 500 200)
        · rw [hl] at h1
          simp (maxSteps := 1000000) (disch := first | omega | (simp only [List.length_cons, List.length_nil, List.length_append, List.length_map, List.length_take, List.length_drop]; omega)) only [go_sem, ↓reduceIte, Nat.reduceSub, Nat.reduceAdd, Nat.reduceMul, Nat.reduceLeDiff, Nat.reduceLT, Nat.reduceEqDiff, Nat.reduceBEq, Int.reduceLE, Int.reduceLT, Int.reduceEq, Int.reduceNeg, Int.reduceAdd, Int.reduceSub, Int.reduceMul, Int.reduceToNat, i_law04_TreeHides, h0, h1, h3]
        · rw [hl] at h1
          simp (maxSteps := 1000000) (disch := first | omega | (simp only [List.length_cons, List.length_nil, List.length_append, List.length_map, List.length_take, List.length_drop]; omega)) only [go_sem, ↓reduceIte, Nat.reduceSub, Nat.reduceAdd, Nat.reduceMul, Nat.reduceLeDiff, Nat.reduceLT, Nat.reduceEqDiff, Nat.reduceBEq, Int.reduceLE, Int.reduceLT, Int.reduceEq, Int.reduceNeg, Int.reduceAdd, Int.reduceSub, Int.reduceMul, Int.reduceToNat, i_law04_TreeHides, h0, h1, h3]
      | some d =>
        rw [hd] at h3
        simp only [dgV, dgE] at h3
        cases hl : decide (0 ≤ t.light 500 200)
        · rw [hl] at h1
          simp (maxSteps := 1000000) (disch := first | omega | (simp only [List.length_cons, List.length_nil, List.length_append, List.length_map, List.length_take, List.length_drop]; omega)) only [go_sem, ↓reduceIte, Nat.reduceSub, Nat.reduceAdd, Nat.reduceMul, Nat.reduceLeDiff, Nat.reduceLT, Nat.reduceEqDiff, Nat.reduceBEq, Int.reduceLE, Int.reduceLT, Int.reduceEq, Int.reduceNeg, Int.reduceAdd, Int.reduceSub, Int.reduceMul, Int.reduceToNat, i_law04_TreeHides, h0, h1, h3]
        · rw [hl] at h1
          simp only [decide_eq_true_eq] at hl
          have hf := chk_formed hc
          have hdd : (d == d) = true := beq_self_eq_true _
          have key : ∀ n : Nat, n ≤ 7 → Ev tab G0 n_law04_cut [i64 w, avT t, i64 n, bo dark] [] = some ([avT (cutT w dark n t), bo true], []) ∧ Ev tab G0 n_tree_Digest [i64 w, avT (cutT w dark n t)] [] = some ([.sl true (eB d), .s .nilIface], []) := fun n hn => by
            refine ⟨cut_ev w hg dark t hf hs (chk_deep hc) n d hn hd, ?_⟩
            obtain ⟨c1, c2, c3⟩ := cut_law w hg dark t hf n d hd
            have c4 := cut_small w hg dark t hf n d 500 200 hd (by omega) hl
            have := light_le t 500 200 (by omega)
            have h5 := tree_Digest_ev w hg (cutT w dark n t) (by omega)
            rw [if_pos (chk_good c1 (c2 64 (by omega) (chk_deep hc))), c3] at h5
            exact h5
          by_cases hk0 : k < 0
          · have em : ((0 - (k + 1)) % 8).toNat ≤ 7 := by omega
            obtain ⟨h5, h6⟩ := key _ em
            have e : (((0 - (k + 1)) % 8).toNat : Int) = (0 - (k + 1)) % 8 := by omega
            rw [e] at h5
            generalize cutT w dark _ t = u at *
            simp (maxSteps := 1000000) (disch := first | omega | (simp only [List.length_cons, List.length_nil, List.length_append, List.length_map, List.length_take, List.length_drop]; omega)) only [go_sem, ↓reduceIte, Nat.reduceSub, Nat.reduceAdd, Nat.reduceMul, Nat.reduceLeDiff, Nat.reduceLT, Nat.reduceEqDiff, Nat.reduceBEq, Int.reduceLE, Int.reduceLT, Int.reduceEq, Int.reduceNeg, Int.reduceAdd, Int.reduceSub, Int.reduceMul, Int.reduceToNat, i_law04_TreeHides, h0, h1, h3, h5, h6, hdd]
          · have em : (k % 8).toNat ≤ 7 := by omega
            obtain ⟨h5, h6⟩ := key _ em
            have e : ((k % 8).toNat : Int) = k % 8 := by omega
            rw [e] at h5
            generalize cutT w dark _ t = u at *
            simp (maxSteps := 1000000) (disch := first | omega | (simp only [List.length_cons, List.length_nil, List.length_append, List.length_map, List.length_take, List.length_drop]; omega)) only [go_sem, ↓reduceIte, Nat.reduceSub, Nat.reduceAdd, Nat.reduceMul, Nat.reduceLeDiff, Nat.reduceLT, Nat.reduceEqDiff, Nat.reduceBEq, Int.reduceLE, Int.reduceLT, Int.reduceEq, Int.reduceNeg, Int.reduceAdd, Int.reduceSub, Int.reduceMul, Int.reduceToNat, i_law04_TreeHides, h0, h1, h3, h5, h6, hdd]
    · rw [if_neg hc] at h3
      generalize t.chk = c at *
      cases hl : decide (0 ≤ t.light 500 200)
      · rw [hl] at h1
        simp (maxSteps := 1000000) (disch := first | omega | (simp only [List.length_cons, List.length_nil, List.length_append, List.length_map, List.length_take, List.length_drop]; omega)) only [go_sem, ↓reduceIte, Nat.reduceSub, Nat.reduceAdd, Nat.reduceMul, Nat.reduceLeDiff, Nat.reduceLT, Nat.reduceEqDiff, Nat.reduceBEq, Int.reduceLE, Int.reduceLT, Int.reduceEq, Int.reduceNeg, Int.reduceAdd, Int.reduceSub, Int.reduceMul, Int.reduceToNat, i_law04_TreeHides, h0, h1, h3, hc]
      · rw [hl] at h1
        simp (maxSteps := 1000000) (disch := first | omega | (simp only [List.length_cons, List.length_nil, List.length_append, List.length_map, List.length_take, List.length_drop]; omega)) only [go_sem, ↓reduceIte, Nat.reduceSub, Nat.reduceAdd, Nat.reduceMul, Nat.reduceLeDiff, Nat.reduceLT, Nat.reduceEqDiff, Nat.reduceBEq, Int.reduceLE, Int.reduceLT, Int.reduceEq, Int.reduceNeg, Int.reduceAdd, Int.reduceSub, Int.reduceMul, Int.reduceToNat, i_law04_TreeHides, h0, h1, h3, hc]
  · have h3 := tree_Digest_arg w hw hg t
    cases hl : decide (0 ≤ t.light 500 200)
    · rw [hl] at h1
      simp (maxSteps := 1000000) (disch := first | omega | (simp only [List.length_cons, List.length_nil, List.length_append, List.length_map, List.length_take, List.length_drop]; omega)) only [go_sem, ↓reduceIte, Nat.reduceSub, Nat.reduceAdd, Nat.reduceMul, Nat.reduceLeDiff, Nat.reduceLT, Nat.reduceEqDiff, Nat.reduceBEq, Int.reduceLE, Int.reduceLT, Int.reduceEq, Int.reduceNeg, Int.reduceAdd, Int.reduceSub, Int.reduceMul, Int.reduceToNat, i_law04_TreeHides, h0, h1, h3]
    · rw [hl] at h1
      simp (maxSteps := 1000000) (disch := first | omega | (simp only [List.length_cons, List.length_nil, List.length_append, List.length_map, List.length_take, List.length_drop]; omega)) only [go_sem, ↓reduceIte, Nat.reduceSub, Nat.reduceAdd, Nat.reduceMul, Nat.reduceLeDiff, Nat.reduceLT, Nat.reduceEqDiff, Nat.reduceBEq, Int.reduceLE, Int.reduceLT, Int.reduceEq, Int.reduceNeg, Int.reduceAdd, Int.reduceSub, Int.reduceMul, Int.reduceToNat, i_law04_TreeHides, h0, h1, h3]

end Go.Proofs.YtebiajdkgpcidaaDoor
