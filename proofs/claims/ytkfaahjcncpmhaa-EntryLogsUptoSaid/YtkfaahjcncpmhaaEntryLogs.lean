/-
  The bytes of any log: the law.
-/
import Derived.Test.YtkfaahjcncpmhaaLEnt
set_option linter.unusedSimpArgs false
set_option linter.unusedVariables false
set_option maxRecDepth 200000
set_option maxHeartbeats 4000000
namespace Go.Proofs.Ytkfaahjcncpmhaa
open Go.Ev

theorem law_EntryLogs (g : LG) (hm : g.mem.length ≤ 1048576) (hs : sumE g.ents ≤ 41943040) : ∃ outs, Ev tab G0 n_law14_EntryLogs [avLog g] [] = some ([bo true], outs) := by
  have h0 := up14_ev
  have hse := sumE_len g.ents
  obtain ⟨r, _, h1⟩ := few_ev g.ents (by omega)
  have h2 := WriteLog_ev g hm hs
  have h3 := rWriteLog_ev g hm hs
  have hec := endC_cases g.p
  have h4 := law00_Code_ev g.p.endC (by omega)
  have hw : (g.p.endB == g.p.endB) = true := beq_self_eq_true _
  generalize g.p.endB = eb at *
  generalize g.p.endC = ec at *
  refine ⟨[], Ev_run t_law14_EntryLogs rfl rfl ?_⟩
  cases r
  · simp (maxSteps := 1000000) (disch := first | omega | (simp only [List.length_cons, List.length_nil, List.length_append, List.length_map, List.length_take, List.length_drop]; omega)) only [go_sem, ↓reduceIte, Nat.reduceSub, Nat.reduceAdd, Nat.reduceMul, Nat.reduceLeDiff, Nat.reduceLT, Nat.reduceEqDiff, Nat.reduceBEq, Int.reduceLE, Int.reduceLT, Int.reduceEq, Int.reduceNeg, Int.reduceAdd, Int.reduceSub, Int.reduceMul, Int.reduceToNat, i_law14_EntryLogs, h0, h1]
  · by_cases hm3 : 300 < g.mem.length
    · simp (maxSteps := 1000000) (disch := first | omega | (simp only [List.length_cons, List.length_nil, List.length_append, List.length_map, List.length_take, List.length_drop]; omega)) only [go_sem, ↓reduceIte, Nat.reduceSub, Nat.reduceAdd, Nat.reduceMul, Nat.reduceLeDiff, Nat.reduceLT, Nat.reduceEqDiff, Nat.reduceBEq, Int.reduceLE, Int.reduceLT, Int.reduceEq, Int.reduceNeg, Int.reduceAdd, Int.reduceSub, Int.reduceMul, Int.reduceToNat, i_law14_EntryLogs, h0, h1, hm3]
    · rcases hec with rfl | rfl | rfl
      · rw [errV, if_pos rfl] at h2 h4
        simp (maxSteps := 1000000) (disch := first | omega | (simp only [List.length_cons, List.length_nil, List.length_append, List.length_map, List.length_take, List.length_drop]; omega)) only [go_sem, ↓reduceIte, Nat.reduceSub, Nat.reduceAdd, Nat.reduceMul, Nat.reduceLeDiff, Nat.reduceLT, Nat.reduceEqDiff, Nat.reduceBEq, Int.reduceLE, Int.reduceLT, Int.reduceEq, Int.reduceNeg, Int.reduceAdd, Int.reduceSub, Int.reduceMul, Int.reduceToNat, i_law14_EntryLogs, h0, h1, h2, h3, h4, hw]
      · rw [errV, if_neg (by decide)] at h2 h4
        simp (maxSteps := 1000000) (disch := first | omega | (simp only [List.length_cons, List.length_nil, List.length_append, List.length_map, List.length_take, List.length_drop]; omega)) only [go_sem, ↓reduceIte, Nat.reduceSub, Nat.reduceAdd, Nat.reduceMul, Nat.reduceLeDiff, Nat.reduceLT, Nat.reduceEqDiff, Nat.reduceBEq, Int.reduceLE, Int.reduceLT, Int.reduceEq, Int.reduceNeg, Int.reduceAdd, Int.reduceSub, Int.reduceMul, Int.reduceToNat, i_law14_EntryLogs, h0, h1, h2, h3, h4, hw]
      · rw [errV, if_neg (by decide)] at h2 h4
        simp (maxSteps := 1000000) (disch := first | omega | (simp only [List.length_cons, List.length_nil, List.length_append, List.length_map, List.length_take, List.length_drop]; omega)) only [go_sem, ↓reduceIte, Nat.reduceSub, Nat.reduceAdd, Nat.reduceMul, Nat.reduceLeDiff, Nat.reduceLT, Nat.reduceEqDiff, Nat.reduceBEq, Int.reduceLE, Int.reduceLT, Int.reduceEq, Int.reduceNeg, Int.reduceAdd, Int.reduceSub, Int.reduceMul, Int.reduceToNat, i_law14_EntryLogs, h0, h1, h2, h3, h4, hw]

end Go.Proofs.Ytkfaahjcncpmhaa
