/-
  Trees that are handed in stay as they are: the law.
-/
import Derived.Test.YtebiajdkgpcidaaDoorLTreeS
set_option linter.unusedSimpArgs false
set_option linter.unusedVariables false
set_option maxRecDepth 200000
set_option maxHeartbeats 4000000
namespace Go.Proofs.YtebiajdkgpcidaaDoor
open Go.Ev

theorem stay_loop (t : T) : ∀ (n i : Nat) (l : List UInt8), n + i = l.length → l.length ≤ 1000 → ∃ l' : List UInt8, l'.length = l.length ∧ L_law04_TreeStays_0 (s_law04_TreeStays_K0 (.ptr 0 0) (bo true) (.ptr 1 0) (.row 2 l.length) (.s .nilIface) (bo true) (i64 i) [some (oT t), some (oT t), some (.row ty_uint8 1 true false (eB l)), none]) = some (.exit 0, s_law04_TreeStays_J0 (.ptr 0 0) (bo true) (.ptr 1 0) (.row 2 l.length) (.s .nilIface) (bo true) [some (oT t), some (oT t), some (.row ty_uint8 1 true false (eB l')), none])
  | 0, i, l, h, hb => by
    refine ⟨l, rfl, ?_⟩
    rw [L_law04_TreeStays_0_eq]
    simp (maxSteps := 1000000) (disch := first | omega | (simp only [List.length_cons, List.length_nil, List.length_append, List.length_map, List.length_take, List.length_drop]; omega)) only [go_sem, ↓reduceIte, Nat.reduceSub, Nat.reduceAdd, Nat.reduceMul, Nat.reduceLeDiff, Nat.reduceLT, Nat.reduceEqDiff, Nat.reduceBEq, Int.reduceLE, Int.reduceLT, Int.reduceEq, Int.reduceNeg, Int.reduceAdd, Int.reduceSub, Int.reduceMul, Int.reduceToNat, i_law04_TreeStays_b0]
  | n + 1, i, l, h, hb => by
    obtain ⟨l', h1, ih⟩ := stay_loop t n (i + 1) (l.set i (byt (((l.getD i 0).toNat : Int) + 1))) (by rw [List.length_set]; omega) (by rw [List.length_set]; omega)
    rw [List.length_set] at h1 ih
    refine ⟨l', h1, ?_⟩
    rw [L_law04_TreeStays_0_eq]
    generalize hd : l.getD i 0 = x at *
    have hx := x.toNat_lt
    generalize hq : l.set i (byt ((x.toNat : Int) + 1)) = q at *
    try simp (maxSteps := 1000000) (disch := first | omega | (simp only [List.length_cons, List.length_nil, List.length_append, List.length_map, List.length_take, List.length_drop]; omega)) only [go_sem, ↓reduceIte, Nat.reduceSub, Nat.reduceAdd, Nat.reduceMul, Nat.reduceLeDiff, Nat.reduceLT, Nat.reduceEqDiff, Nat.reduceBEq, Int.reduceLE, Int.reduceLT, Int.reduceEq, Int.reduceNeg, Int.reduceAdd, Int.reduceSub, Int.reduceMul, Int.reduceToNat] at ih
    simp (maxSteps := 1000000) (disch := first | omega | (simp only [List.length_cons, List.length_nil, List.length_append, List.length_map, List.length_take, List.length_drop]; omega)) only [go_sem, ↓reduceIte, Nat.reduceSub, Nat.reduceAdd, Nat.reduceMul, Nat.reduceLeDiff, Nat.reduceLT, Nat.reduceEqDiff, Nat.reduceBEq, Int.reduceLE, Int.reduceLT, Int.reduceEq, Int.reduceNeg, Int.reduceAdd, Int.reduceSub, Int.reduceMul, Int.reduceToNat, i_law04_TreeStays_b0, hd, hq, ih]
theorem stay_nil (t : T) (c : Int) : L_law04_TreeStays_0 (s_law04_TreeStays_K0 (.ptr 0 0) (bo true) (.ptr 1 0) .nilsl (errA c) (bo true) (i64 0) [some (oT t), some (oT t), none, none]) = some (.exit 0, s_law04_TreeStays_J0 (.ptr 0 0) (bo true) (.ptr 1 0) .nilsl (errA c) (bo true) [some (oT t), some (oT t), none, none]) := by
  rw [L_law04_TreeStays_0_eq]
  simp (maxSteps := 1000000) (disch := first | omega | (simp only [List.length_cons, List.length_nil, List.length_append, List.length_map, List.length_take, List.length_drop]; omega)) only [go_sem, ↓reduceIte, Nat.reduceSub, Nat.reduceAdd, Nat.reduceMul, Nat.reduceLeDiff, Nat.reduceLT, Nat.reduceEqDiff, Nat.reduceBEq, Int.reduceLE, Int.reduceLT, Int.reduceEq, Int.reduceNeg, Int.reduceAdd, Int.reduceSub, Int.reduceMul, Int.reduceToNat, i_law04_TreeStays_b0]
theorem law_TreeStays (t : T) (hs : t.size ≤ 1048576) : ∃ outs, Ev tab G0 n_law04_TreeStays [avT t] [] = some ([bo true], outs) := by
  have h0 := up04_ev
  have h1 := small04_ev t hs
  have h2 := ref04_Copy_ev t hs
  have h3 := Digest_evK 4 (by decide) t hs
  have h4 := ref04_Same_self t hs
  have h5 := tree_Check_ev t hs
  cases hl : decide (0 ≤ t.light 500 200)
  · rw [hl] at h1
    refine ⟨[], Ev_run t_law04_TreeStays rfl rfl ?_⟩
    simp (maxSteps := 1000000) (disch := first | omega | (simp only [List.length_cons, List.length_nil, List.length_append, List.length_map, List.length_take, List.length_drop]; omega)) only [go_sem, ↓reduceIte, Nat.reduceSub, Nat.reduceAdd, Nat.reduceMul, Nat.reduceLeDiff, Nat.reduceLT, Nat.reduceEqDiff, Nat.reduceBEq, Int.reduceLE, Int.reduceLT, Int.reduceEq, Int.reduceNeg, Int.reduceAdd, Int.reduceSub, Int.reduceMul, Int.reduceToNat, i_law04_TreeStays, h0, h1]
  · rw [hl] at h1
    by_cases hc : t.chk = 0
    · have h6 := tree_List_ev t hs hc
      rw [if_pos hc] at h3
      rw [hc, errV, if_pos rfl] at h5
      cases hd : t.dig 4 with
      | none =>
        rw [hd] at h3
        simp only [kA, kO, dgE] at h3
        have h8 := stay_nil t 3
        refine ⟨[], Ev_run t_law04_TreeStays rfl rfl ?_⟩
        simp (maxSteps := 1000000) (disch := first | omega | (simp only [List.length_cons, List.length_nil, List.length_append, List.length_map, List.length_take, List.length_drop]; omega)) only [go_sem, ↓reduceIte, Nat.reduceSub, Nat.reduceAdd, Nat.reduceMul, Nat.reduceLeDiff, Nat.reduceLT, Nat.reduceEqDiff, Nat.reduceBEq, Int.reduceLE, Int.reduceLT, Int.reduceEq, Int.reduceNeg, Int.reduceAdd, Int.reduceSub, Int.reduceMul, Int.reduceToNat, i_law04_TreeStays, h0, h1, h2, h3, h4, h5, h6, h8]
      | some d =>
        rw [hd] at h3
        simp only [kA, kO, dgE] at h3
        have hdl := dig_len 4 (by decide) t (chk_formed hc) d hd
        obtain ⟨l', h7, h8⟩ := stay_loop t d.length 0 d (by omega) (by omega)
        have e0 : ((0 : Nat) : Int) = 0 := rfl
        rw [e0] at h8
        refine ⟨[], Ev_run t_law04_TreeStays rfl rfl ?_⟩
        simp (maxSteps := 1000000) (disch := first | omega | (simp only [List.length_cons, List.length_nil, List.length_append, List.length_map, List.length_take, List.length_drop]; omega)) only [go_sem, ↓reduceIte, Nat.reduceSub, Nat.reduceAdd, Nat.reduceMul, Nat.reduceLeDiff, Nat.reduceLT, Nat.reduceEqDiff, Nat.reduceBEq, Int.reduceLE, Int.reduceLT, Int.reduceEq, Int.reduceNeg, Int.reduceAdd, Int.reduceSub, Int.reduceMul, Int.reduceToNat, i_law04_TreeStays, h0, h1, h2, h3, h4, h5, h6, h8, h7]
    · have h6 := tree_List_bad t hs hc
      rw [if_neg hc] at h3
      rw [errV, if_neg hc] at h5
      generalize t.chk = c at *
      have h8 := stay_nil t c
      refine ⟨[], Ev_run t_law04_TreeStays rfl rfl ?_⟩
      simp (maxSteps := 1000000) (disch := first | omega | (simp only [List.length_cons, List.length_nil, List.length_append, List.length_map, List.length_take, List.length_drop]; omega)) only [go_sem, ↓reduceIte, Nat.reduceSub, Nat.reduceAdd, Nat.reduceMul, Nat.reduceLeDiff, Nat.reduceLT, Nat.reduceEqDiff, Nat.reduceBEq, Int.reduceLE, Int.reduceLT, Int.reduceEq, Int.reduceNeg, Int.reduceAdd, Int.reduceSub, Int.reduceMul, Int.reduceToNat, i_law04_TreeStays, h0, h1, h2, h3, h4, h5, h6, h8]

end Go.Proofs.YtebiajdkgpcidaaDoor
