/-
  The bytes of any message: the law.
-/
import Derived.Test.YtkfaahjcncpmhaaLMsg2
import Derived.Test.YtkfaahjcncpmhaaLTree5
set_option linter.unusedSimpArgs false
set_option linter.unusedVariables false
set_option maxRecDepth 200000
set_option maxHeartbeats 4000000
namespace Go.Proofs.Ytkfaahjcncpmhaa
open Go.Ev

theorem law_EntryWrites (m : MG) (he : sumE m.ents ≤ 41943040) (hm : m.mem.length ≤ 1048576) (hr : m.root.length ≤ 1048576) (ht : m.tree.size ≤ 1048576) : ∃ outs, Ev tab G0 n_law14_EntryWrites [avMsg m] [] = some ([bo true], outs) := by
  have h0 := up14_ev
  have hse := sumE_len m.ents
  obtain ⟨r, _, h1⟩ := few_ev m.ents (by omega)
  have h2 := Write_ev m ⟨he, hm, hr, ht⟩
  have h3 := rWrite_ev m ⟨he, hm, hr, ht⟩
  have h5 := ref04_Light_ev m.tree 300 200 (by omega) (by omega) ht
  have hec := endC_cases m.p
  have h4 := law00_Code_ev m.p.endC (by omega)
  have hw : (m.p.endB == m.p.endB) = true := beq_self_eq_true _
  generalize m.p.endB = eb at *
  generalize m.p.endC = ec at *
  rw [avM_tree] at h5
  generalize m.tree.light 300 200 = lg at *
  refine ⟨[], Ev_run t_law14_EntryWrites rfl rfl ?_⟩
  cases r
  · simp (maxSteps := 1000000) (disch := first | omega | (simp only [List.length_cons, List.length_nil, List.length_append, List.length_map, List.length_take, List.length_drop]; omega)) only [go_sem, ↓reduceIte, Nat.reduceSub, Nat.reduceAdd, Nat.reduceMul, Nat.reduceLeDiff, Nat.reduceLT, Nat.reduceEqDiff, Nat.reduceBEq, Int.reduceLE, Int.reduceLT, Int.reduceEq, Int.reduceNeg, Int.reduceAdd, Int.reduceSub, Int.reduceMul, Int.reduceToNat, i_law14_EntryWrites, h0, h1]
  · by_cases hm3 : 300 < m.mem.length
    · simp (maxSteps := 1000000) (disch := first | omega | (simp only [List.length_cons, List.length_nil, List.length_append, List.length_map, List.length_take, List.length_drop]; omega)) only [go_sem, ↓reduceIte, Nat.reduceSub, Nat.reduceAdd, Nat.reduceMul, Nat.reduceLeDiff, Nat.reduceLT, Nat.reduceEqDiff, Nat.reduceBEq, Int.reduceLE, Int.reduceLT, Int.reduceEq, Int.reduceNeg, Int.reduceAdd, Int.reduceSub, Int.reduceMul, Int.reduceToNat, i_law14_EntryWrites, h0, h1, hm3]
    · by_cases hlg : lg < 0
      · simp (maxSteps := 1000000) (disch := first | omega | (simp only [List.length_cons, List.length_nil, List.length_append, List.length_map, List.length_take, List.length_drop]; omega)) only [go_sem, ↓reduceIte, Nat.reduceSub, Nat.reduceAdd, Nat.reduceMul, Nat.reduceLeDiff, Nat.reduceLT, Nat.reduceEqDiff, Nat.reduceBEq, Int.reduceLE, Int.reduceLT, Int.reduceEq, Int.reduceNeg, Int.reduceAdd, Int.reduceSub, Int.reduceMul, Int.reduceToNat, i_law14_EntryWrites, h0, h1, hm3, h5, hlg]
      · rcases hec with rfl | rfl | rfl
        · rw [errV, if_pos rfl] at h2 h4
          simp (maxSteps := 1000000) (disch := first | omega | (simp only [List.length_cons, List.length_nil, List.length_append, List.length_map, List.length_take, List.length_drop]; omega)) only [go_sem, ↓reduceIte, Nat.reduceSub, Nat.reduceAdd, Nat.reduceMul, Nat.reduceLeDiff, Nat.reduceLT, Nat.reduceEqDiff, Nat.reduceBEq, Int.reduceLE, Int.reduceLT, Int.reduceEq, Int.reduceNeg, Int.reduceAdd, Int.reduceSub, Int.reduceMul, Int.reduceToNat, i_law14_EntryWrites, h0, h1, h2, h3, h4, h5, hm3, hlg, hw]
        · rw [errV, if_neg (by decide)] at h2 h4
          simp (maxSteps := 1000000) (disch := first | omega | (simp only [List.length_cons, List.length_nil, List.length_append, List.length_map, List.length_take, List.length_drop]; omega)) only [go_sem, ↓reduceIte, Nat.reduceSub, Nat.reduceAdd, Nat.reduceMul, Nat.reduceLeDiff, Nat.reduceLT, Nat.reduceEqDiff, Nat.reduceBEq, Int.reduceLE, Int.reduceLT, Int.reduceEq, Int.reduceNeg, Int.reduceAdd, Int.reduceSub, Int.reduceMul, Int.reduceToNat, i_law14_EntryWrites, h0, h1, h2, h3, h4, h5, hm3, hlg, hw]
        · rw [errV, if_neg (by decide)] at h2 h4
          simp (maxSteps := 1000000) (disch := first | omega | (simp only [List.length_cons, List.length_nil, List.length_append, List.length_map, List.length_take, List.length_drop]; omega)) only [go_sem, ↓reduceIte, Nat.reduceSub, Nat.reduceAdd, Nat.reduceMul, Nat.reduceLeDiff, Nat.reduceLT, Nat.reduceEqDiff, Nat.reduceBEq, Int.reduceLE, Int.reduceLT, Int.reduceEq, Int.reduceNeg, Int.reduceAdd, Int.reduceSub, Int.reduceMul, Int.reduceToNat, i_law14_EntryWrites, h0, h1, h2, h3, h4, h5, hm3, hlg, hw]

end Go.Proofs.Ytkfaahjcncpmhaa
