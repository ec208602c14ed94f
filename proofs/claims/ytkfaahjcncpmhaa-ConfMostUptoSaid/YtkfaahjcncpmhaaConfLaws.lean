/-
  Members: three laws.
-/
import Derived.Test.YtkfaahjcncpmhaaLConf2
set_option linter.unusedSimpArgs false
set_option linter.unusedVariables false
set_option maxRecDepth 200000
set_option maxHeartbeats 4000000
namespace Go.Proofs.Ytkfaahjcncpmhaa
open Go.Ev

theorem law_ConfMost (l m : List Int) (x : Int) (hl : l.length ≤ 1048576) (hm : m.length ≤ 1048576) : ∃ outs, Ev tab G0 n_law17_ConfMost [.sl true (eI .i64 l), .sl true (eI .i64 m), i64 x] [] = some ([bo true], outs) := by
  have h0 := up17_ev
  have h1 := conf_Has_ev l hl x
  have h2 := ref17_Has_ev l hl x
  have h3 := conf_Most_ev l m hl hm
  have h4 := ref17_Most_ev l m hl hm
  generalize decide (x ∈ l) = p at *
  generalize mostP l m = q at *
  refine ⟨[], Ev_run t_law17_ConfMost rfl rfl ?_⟩
  by_cases c1 : 1000 < l.length
  · simp (maxSteps := 1000000) (disch := first | omega | (simp only [List.length_cons, List.length_nil, List.length_append, List.length_map, List.length_take, List.length_drop]; omega)) only [go_sem, ↓reduceIte, Nat.reduceSub, Nat.reduceAdd, Nat.reduceMul, Nat.reduceLeDiff, Nat.reduceLT, Nat.reduceEqDiff, Nat.reduceBEq, Int.reduceLE, Int.reduceLT, Int.reduceEq, Int.reduceNeg, Int.reduceAdd, Int.reduceSub, Int.reduceMul, Int.reduceToNat, i_law17_ConfMost, h0]
  · by_cases c2 : 1000 < m.length
    · simp (maxSteps := 1000000) (disch := first | omega | (simp only [List.length_cons, List.length_nil, List.length_append, List.length_map, List.length_take, List.length_drop]; omega)) only [go_sem, ↓reduceIte, Nat.reduceSub, Nat.reduceAdd, Nat.reduceMul, Nat.reduceLeDiff, Nat.reduceLT, Nat.reduceEqDiff, Nat.reduceBEq, Int.reduceLE, Int.reduceLT, Int.reduceEq, Int.reduceNeg, Int.reduceAdd, Int.reduceSub, Int.reduceMul, Int.reduceToNat, i_law17_ConfMost, h0]
    · cases p <;> cases q <;> simp (maxSteps := 1000000) (disch := first | omega | (simp only [List.length_cons, List.length_nil, List.length_append, List.length_map, List.length_take, List.length_drop]; omega)) only [go_sem, ↓reduceIte, Nat.reduceSub, Nat.reduceAdd, Nat.reduceMul, Nat.reduceLeDiff, Nat.reduceLT, Nat.reduceEqDiff, Nat.reduceBEq, Int.reduceLE, Int.reduceLT, Int.reduceEq, Int.reduceNeg, Int.reduceAdd, Int.reduceSub, Int.reduceMul, Int.reduceToNat, i_law17_ConfMost, h0, h1, h2, h3, h4]
theorem law_ConfStep (a b : List Int) (ha : a.length ≤ 1048576) (hb : b.length ≤ 1048576) : ∃ outs, Ev tab G0 n_law17_ConfStep [.sl true (eI .i64 a), .sl true (eI .i64 b)] [] = some ([bo true], outs) := by
  have h0 := up17_ev
  have h3 := conf_Step_ev a b ha hb
  have h4 := ref17_Step_ev a b ha hb
  rw [← step_eq] at h4
  generalize stepP a b = q at *
  refine ⟨[], Ev_run t_law17_ConfStep rfl rfl ?_⟩
  cases q <;> simp (maxSteps := 1000000) (disch := first | omega | (simp only [List.length_cons, List.length_nil, List.length_append, List.length_map, List.length_take, List.length_drop]; omega)) only [go_sem, ↓reduceIte, Nat.reduceSub, Nat.reduceAdd, Nat.reduceMul, Nat.reduceLeDiff, Nat.reduceLT, Nat.reduceEqDiff, Nat.reduceBEq, Int.reduceLE, Int.reduceLT, Int.reduceEq, Int.reduceNeg, Int.reduceAdd, Int.reduceSub, Int.reduceMul, Int.reduceToNat, i_law17_ConfStep, h0, h3, h4]

end Go.Proofs.Ytkfaahjcncpmhaa
