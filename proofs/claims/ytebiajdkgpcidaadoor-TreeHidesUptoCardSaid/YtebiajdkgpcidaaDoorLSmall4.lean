/-
  The document's examples; small trees.
-/
import Derived.Test.YtebiajdkgpcidaaDoorLTold
set_option linter.unusedSimpArgs false
set_option linter.unusedVariables false
set_option maxRecDepth 200000
set_option maxHeartbeats 4000000
namespace Go.Proofs.YtebiajdkgpcidaaDoor
open Go.Ev

theorem shaS_3 : dg 1 [3] = [8] := by kernel_rfl
theorem up_dig : Ev tab G0 n_tree_Digest [i64 1, avT T.no] [] = some ([.sl true (eB [8]), .s .nilIface], []) := by
  have h := tree_Digest_ev 1 (by decide) T.no (by decide)
  have hc : T.no.chk = 0 := by kernel_rfl
  rw [if_pos hc, dig_0 rfl, shaS_3] at h
  exact h
theorem up04_ev : Ev tab G0 n_law04_up [] [] = some ([bo true], []) := by
  have h1 := up_dig
  have h2 : Ev tab G0 n_tree_Check [avT (.mk 1 [] [] [] [T.no])] [] = some ([errA 3], []) := Ev_by 40 (by kernel_rfl)
  have h3 : Ev tab G0 n_tree_Full [avT T.no] [] = some ([bo true], []) := Ev_by 40 (by kernel_rfl)
  have e1 : avT T.no = .agg [i64 0, .sl true [], .sl true [], .sl true [], .sl true []] := rfl
  have e2 : avT (.mk 1 [] [] [] [T.no]) = .agg [i64 1, .sl true [], .sl true [], .sl true [], .sl true [[.sc (.int .i64 0), .sl [], .sl [], .sl [], .sl []]]] := rfl
  rw [e1] at h1 h3
  rw [e2] at h2
  have e8 : byt 8 = 8 := rfl
  refine Ev_run t_law04_up rfl rfl ?_
  simp (maxSteps := 1000000) (disch := first | omega | (simp only [List.length_cons, List.length_nil, List.length_append, List.length_map, List.length_take, List.length_drop]; omega)) only [go_sem, ↓reduceIte, Nat.reduceSub, Nat.reduceAdd, Nat.reduceMul, Nat.reduceLeDiff, Nat.reduceLT, Nat.reduceEqDiff, Nat.reduceBEq, Int.reduceLE, Int.reduceLT, Int.reduceEq, Int.reduceNeg, Int.reduceAdd, Int.reduceSub, Int.reduceMul, Int.reduceToNat, i_law04_up, e8, h1, h2, h3]
theorem small04_ev (t : T) (hs : t.size ≤ 1048576) : Ev tab G0 n_law04_small [avT t] [] = some ([bo (decide (0 ≤ t.light 500 200))], []) := by
  have h1 := ref04_Light_ev t 500 200 (by omega) (by omega) hs
  refine Ev_run t_law04_small rfl rfl ?_
  simp (maxSteps := 1000000) (disch := first | omega | (simp only [List.length_cons, List.length_nil, List.length_append, List.length_map, List.length_take, List.length_drop]; omega)) only [go_sem, ↓reduceIte, Nat.reduceSub, Nat.reduceAdd, Nat.reduceMul, Nat.reduceLeDiff, Nat.reduceLT, Nat.reduceEqDiff, Nat.reduceBEq, Int.reduceLE, Int.reduceLT, Int.reduceEq, Int.reduceNeg, Int.reduceAdd, Int.reduceSub, Int.reduceMul, Int.reduceToNat, i_law04_small, h1]

end Go.Proofs.YtebiajdkgpcidaaDoor
