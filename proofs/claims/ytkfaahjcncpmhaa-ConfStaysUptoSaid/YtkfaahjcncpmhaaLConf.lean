/-
  Members, by the evaluator.
-/
import Derived.Test.YtkfaahjcncpmhaaIr
import Derived.Test.YtkfaahjcncpmhaaLConfP
import Derived.KernelRfl
set_option linter.unusedSimpArgs false
set_option linter.unusedVariables false
set_option maxRecDepth 200000
set_option maxHeartbeats 4000000
namespace Go.Proofs.Ytkfaahjcncpmhaa
open Go.Ev

theorem okAt_lo {l : List Int} {i : Nat} (h : l.getD i 0 < 1) : okAt l i = false := by
  unfold okAt; rw [decide_eq_false_iff_not]; omega
theorem okAt_hi {l : List Int} {i : Nat} (h : 7 < l.getD i 0) : okAt l i = false := by
  unfold okAt; rw [decide_eq_false_iff_not]; omega
theorem okAt_z {l : List Int} (h : 1 ≤ l.getD 0 0 ∧ l.getD 0 0 ≤ 7) : okAt l 0 = true := by
  unfold okAt; rw [decide_eq_true_eq]; exact ⟨h.1, h.2, .inl rfl⟩
theorem okAt_s {l : List Int} {j : Nat} (h : 1 ≤ l.getD (j + 1) 0 ∧ l.getD (j + 1) 0 ≤ 7) : okAt l (j + 1) = decide (l.getD j 0 < l.getD (j + 1) 0) := by
  unfold okAt
  apply decide_eq_decide.2
  rw [Nat.add_sub_cancel]
  omega
theorem may_loop (l : List Int) (hl : l.length ≤ 1048576) : ∀ (n i : Nat), n + i = l.length → L_conf_May_0 (s_conf_May_K0 (.sl true (eI .i64 l)) (.sl true (eI .i64 l)) (i64 l.length) (i64 i) []) = if mayF l i n = true then some (.exit 0, s_conf_May_J0 (.sl true (eI .i64 l)) []) else some (.ret, s_conf_May_R (bo false) [])
  | 0, i, h => by
    rw [mayF, if_pos rfl, L_conf_May_0_eq]
    simp (maxSteps := 1000000) (disch := first | omega | (simp only [List.length_cons, List.length_nil, List.length_append, List.length_map, List.length_take, List.length_drop]; omega)) only [go_sem, ↓reduceIte, Nat.reduceSub, Nat.reduceAdd, Nat.reduceMul, Nat.reduceLeDiff, Nat.reduceLT, Nat.reduceEqDiff, Nat.reduceBEq, Int.reduceLE, Int.reduceLT, Int.reduceEq, Int.reduceNeg, Int.reduceAdd, Int.reduceSub, Int.reduceMul, Int.reduceToNat, i_conf_May_b0]
  | n + 1, i, h => by
    have ih := may_loop l hl n (i + 1) (by omega)
    rw [mayF, L_conf_May_0_eq]
    by_cases c1 : l.getD i 0 < 1
    · rw [okAt_lo c1, Bool.false_and, if_neg (by simp)]
      generalize hd : l.getD i 0 = x at *
      simp (maxSteps := 1000000) (disch := first | omega | (simp only [List.length_cons, List.length_nil, List.length_append, List.length_map, List.length_take, List.length_drop]; omega)) only [go_sem, ↓reduceIte, Nat.reduceSub, Nat.reduceAdd, Nat.reduceMul, Nat.reduceLeDiff, Nat.reduceLT, Nat.reduceEqDiff, Nat.reduceBEq, Int.reduceLE, Int.reduceLT, Int.reduceEq, Int.reduceNeg, Int.reduceAdd, Int.reduceSub, Int.reduceMul, Int.reduceToNat, i_conf_May_b0, hd]
    · by_cases c2 : 7 < l.getD i 0
      · rw [okAt_hi c2, Bool.false_and, if_neg (by simp)]
        generalize hd : l.getD i 0 = x at *
        simp (maxSteps := 1000000) (disch := first | omega | (simp only [List.length_cons, List.length_nil, List.length_append, List.length_map, List.length_take, List.length_drop]; omega)) only [go_sem, ↓reduceIte, Nat.reduceSub, Nat.reduceAdd, Nat.reduceMul, Nat.reduceLeDiff, Nat.reduceLT, Nat.reduceEqDiff, Nat.reduceBEq, Int.reduceLE, Int.reduceLT, Int.reduceEq, Int.reduceNeg, Int.reduceAdd, Int.reduceSub, Int.reduceMul, Int.reduceToNat, i_conf_May_b0, hd]
      · try simp (maxSteps := 1000000) (disch := first | omega | (simp only [List.length_cons, List.length_nil, List.length_append, List.length_map, List.length_take, List.length_drop]; omega)) only [go_sem, ↓reduceIte, Nat.reduceSub, Nat.reduceAdd, Nat.reduceMul, Nat.reduceLeDiff, Nat.reduceLT, Nat.reduceEqDiff, Nat.reduceBEq, Int.reduceLE, Int.reduceLT, Int.reduceEq, Int.reduceNeg, Int.reduceAdd, Int.reduceSub, Int.reduceMul, Int.reduceToNat] at ih
        cases i with
        | zero =>
          rw [okAt_z (by omega), Bool.true_and]
          have e0 : ((0 : Nat) : Int) = 0 := rfl
          generalize hd : l.getD 0 0 = x at *
          try simp (maxSteps := 1000000) (disch := first | omega | (simp only [List.length_cons, List.length_nil, List.length_append, List.length_map, List.length_take, List.length_drop]; omega)) only [go_sem, ↓reduceIte, Nat.reduceSub, Nat.reduceAdd, Nat.reduceMul, Nat.reduceLeDiff, Nat.reduceLT, Nat.reduceEqDiff, Nat.reduceBEq, Int.reduceLE, Int.reduceLT, Int.reduceEq, Int.reduceNeg, Int.reduceAdd, Int.reduceSub, Int.reduceMul, Int.reduceToNat, e0] at ih
          simp (maxSteps := 1000000) (disch := first | omega | (simp only [List.length_cons, List.length_nil, List.length_append, List.length_map, List.length_take, List.length_drop]; omega)) only [go_sem, ↓reduceIte, Nat.reduceSub, Nat.reduceAdd, Nat.reduceMul, Nat.reduceLeDiff, Nat.reduceLT, Nat.reduceEqDiff, Nat.reduceBEq, Int.reduceLE, Int.reduceLT, Int.reduceEq, Int.reduceNeg, Int.reduceAdd, Int.reduceSub, Int.reduceMul, Int.reduceToNat, i_conf_May_b0, hd, ih, e0]
        | succ j =>
          rw [okAt_s (by omega)]
          try simp (maxSteps := 1000000) (disch := first | omega | (simp only [List.length_cons, List.length_nil, List.length_append, List.length_map, List.length_take, List.length_drop]; omega)) only [go_sem, ↓reduceIte, Nat.reduceSub, Nat.reduceAdd, Nat.reduceMul, Nat.reduceLeDiff, Nat.reduceLT, Nat.reduceEqDiff, Nat.reduceBEq, Int.reduceLE, Int.reduceLT, Int.reduceEq, Int.reduceNeg, Int.reduceAdd, Int.reduceSub, Int.reduceMul, Int.reduceToNat] at ih
          have ej : ((j : Int) + 1).toNat = j + 1 := by omega
          have ek : ((j : Int) + 1 - 1).toNat = j := by omega
          by_cases c3 : l.getD j 0 < l.getD (j + 1) 0
          · rw [decide_eq_true c3, Bool.true_and]
            generalize hd : l.getD (j + 1) 0 = x at *
            generalize hd2 : l.getD j 0 = y at *
            simp (maxSteps := 1000000) (disch := first | omega | (simp only [List.length_cons, List.length_nil, List.length_append, List.length_map, List.length_take, List.length_drop]; omega)) only [go_sem, ↓reduceIte, Nat.reduceSub, Nat.reduceAdd, Nat.reduceMul, Nat.reduceLeDiff, Nat.reduceLT, Nat.reduceEqDiff, Nat.reduceBEq, Int.reduceLE, Int.reduceLT, Int.reduceEq, Int.reduceNeg, Int.reduceAdd, Int.reduceSub, Int.reduceMul, Int.reduceToNat, i_conf_May_b0, hd, hd2, ih, ej, ek]
          · rw [decide_eq_false c3, Bool.false_and, if_neg (by simp)]
            generalize hd : l.getD (j + 1) 0 = x at *
            generalize hd2 : l.getD j 0 = y at *
            simp (maxSteps := 1000000) (disch := first | omega | (simp only [List.length_cons, List.length_nil, List.length_append, List.length_map, List.length_take, List.length_drop]; omega)) only [go_sem, ↓reduceIte, Nat.reduceSub, Nat.reduceAdd, Nat.reduceMul, Nat.reduceLeDiff, Nat.reduceLT, Nat.reduceEqDiff, Nat.reduceBEq, Int.reduceLE, Int.reduceLT, Int.reduceEq, Int.reduceNeg, Int.reduceAdd, Int.reduceSub, Int.reduceMul, Int.reduceToNat, i_conf_May_b0, hd, hd2, ej, ek]
theorem conf_May_ev (l : List Int) (hl : l.length ≤ 1048576) : Ev tab G0 n_conf_May [.sl true (eI .i64 l)] [] = some ([bo (may l)], []) := by
  have h := may_loop l hl l.length 0 (by omega)
  have e0 : ((0 : Nat) : Int) = 0 := rfl
  rw [e0] at h
  change _ = if mayL l = true then _ else _ at h
  refine Ev_run t_conf_May rfl rfl ?_
  unfold may
  cases hm : mayL l
  · rw [hm, if_neg (by simp)] at h
    simp (maxSteps := 1000000) (disch := first | omega | (simp only [List.length_cons, List.length_nil, List.length_append, List.length_map, List.length_take, List.length_drop]; omega)) only [go_sem, ↓reduceIte, Nat.reduceSub, Nat.reduceAdd, Nat.reduceMul, Nat.reduceLeDiff, Nat.reduceLT, Nat.reduceEqDiff, Nat.reduceBEq, Int.reduceLE, Int.reduceLT, Int.reduceEq, Int.reduceNeg, Int.reduceAdd, Int.reduceSub, Int.reduceMul, Int.reduceToNat, i_conf_May, h]
  · rw [hm, if_pos rfl] at h
    rw [Bool.true_and]
    have ed : decide ((0 : Int) < l.length) = decide (0 < l.length) := by
      apply decide_eq_decide.2
      omega
    simp (maxSteps := 1000000) (disch := first | omega | (simp only [List.length_cons, List.length_nil, List.length_append, List.length_map, List.length_take, List.length_drop]; omega)) only [go_sem, ↓reduceIte, Nat.reduceSub, Nat.reduceAdd, Nat.reduceMul, Nat.reduceLeDiff, Nat.reduceLT, Nat.reduceEqDiff, Nat.reduceBEq, Int.reduceLE, Int.reduceLT, Int.reduceEq, Int.reduceNeg, Int.reduceAdd, Int.reduceSub, Int.reduceMul, Int.reduceToNat, i_conf_May, h, ed]
/-! ### One of them? -/
theorem mem_drop {l : List Int} {i : Nat} {x : Int} (h : i < l.length) : decide (x ∈ l.drop i) = (decide (l.getD i 0 = x) || decide (x ∈ l.drop (i + 1))) := by
  rw [drop_step (d := 0) h, Bool.eq_iff_iff]
  simp only [List.mem_cons, decide_eq_true_eq, Bool.or_eq_true]
  exact or_congr_left eq_comm
theorem idx_loop (l : List Int) (hl : l.length ≤ 1048576) (x : Int) : ∀ (n i : Nat), n + i = l.length →
    (decide (x ∈ l.drop i) = false → L_slices_Index_sl_int_int_0 (s_slices_Index_sl_int_int_K0 (.sl true (eI .i64 l)) (i64 x) (i64 l.length) (i64 i) []) = some (.exit 0, s_slices_Index_sl_int_int_J0 [])) ∧
    (decide (x ∈ l.drop i) = true → ∃ j : Nat, L_slices_Index_sl_int_int_0 (s_slices_Index_sl_int_int_K0 (.sl true (eI .i64 l)) (i64 x) (i64 l.length) (i64 i) []) = some (.ret, s_slices_Index_sl_int_int_R (i64 j) []))
  | 0, i, h => by
    rw [List.drop_of_length_le (by omega)]
    refine ⟨fun _ => ?_, fun h => by simp at h⟩
    rw [L_slices_Index_sl_int_int_0_eq]
    simp (maxSteps := 1000000) (disch := first | omega | (simp only [List.length_cons, List.length_nil, List.length_append, List.length_map, List.length_take, List.length_drop]; omega)) only [go_sem, ↓reduceIte, Nat.reduceSub, Nat.reduceAdd, Nat.reduceMul, Nat.reduceLeDiff, Nat.reduceLT, Nat.reduceEqDiff, Nat.reduceBEq, Int.reduceLE, Int.reduceLT, Int.reduceEq, Int.reduceNeg, Int.reduceAdd, Int.reduceSub, Int.reduceMul, Int.reduceToNat, i_slices_Index_sl_int_int_b0]
  | n + 1, i, h => by
    obtain ⟨ih1, ih2⟩ := idx_loop l hl x n (i + 1) (by omega)
    rw [mem_drop (by omega)]
    generalize hd : l.getD i 0 = y at *
    by_cases c : y = x
    · subst c
      rw [decide_eq_true rfl, Bool.true_or]
      refine ⟨fun hn => by simp at hn, fun _ => ⟨i, ?_⟩⟩
      rw [L_slices_Index_sl_int_int_0_eq]
      simp (maxSteps := 1000000) (disch := first | omega | (simp only [List.length_cons, List.length_nil, List.length_append, List.length_map, List.length_take, List.length_drop]; omega)) only [go_sem, ↓reduceIte, Nat.reduceSub, Nat.reduceAdd, Nat.reduceMul, Nat.reduceLeDiff, Nat.reduceLT, Nat.reduceEqDiff, Nat.reduceBEq, Int.reduceLE, Int.reduceLT, Int.reduceEq, Int.reduceNeg, Int.reduceAdd, Int.reduceSub, Int.reduceMul, Int.reduceToNat, i_slices_Index_sl_int_int_b0, hd]
    · rw [decide_eq_false c, Bool.false_or]
      have c' : ¬ x = y := fun h => c h.symm
      refine ⟨fun hn => ?_, fun hn => ?_⟩
      · have ih := ih1 hn
        try simp (maxSteps := 1000000) (disch := first | omega | (simp only [List.length_cons, List.length_nil, List.length_append, List.length_map, List.length_take, List.length_drop]; omega)) only [go_sem, ↓reduceIte, Nat.reduceSub, Nat.reduceAdd, Nat.reduceMul, Nat.reduceLeDiff, Nat.reduceLT, Nat.reduceEqDiff, Nat.reduceBEq, Int.reduceLE, Int.reduceLT, Int.reduceEq, Int.reduceNeg, Int.reduceAdd, Int.reduceSub, Int.reduceMul, Int.reduceToNat] at ih
        rw [L_slices_Index_sl_int_int_0_eq]
        simp (maxSteps := 1000000) (disch := first | omega | (simp only [List.length_cons, List.length_nil, List.length_append, List.length_map, List.length_take, List.length_drop]; omega)) only [go_sem, ↓reduceIte, Nat.reduceSub, Nat.reduceAdd, Nat.reduceMul, Nat.reduceLeDiff, Nat.reduceLT, Nat.reduceEqDiff, Nat.reduceBEq, Int.reduceLE, Int.reduceLT, Int.reduceEq, Int.reduceNeg, Int.reduceAdd, Int.reduceSub, Int.reduceMul, Int.reduceToNat, i_slices_Index_sl_int_int_b0, hd, c', ih]
      · obtain ⟨j, ih⟩ := ih2 hn
        refine ⟨j, ?_⟩
        try simp (maxSteps := 1000000) (disch := first | omega | (simp only [List.length_cons, List.length_nil, List.length_append, List.length_map, List.length_take, List.length_drop]; omega)) only [go_sem, ↓reduceIte, Nat.reduceSub, Nat.reduceAdd, Nat.reduceMul, Nat.reduceLeDiff, Nat.reduceLT, Nat.reduceEqDiff, Nat.reduceBEq, Int.reduceLE, Int.reduceLT, Int.reduceEq, Int.reduceNeg, Int.reduceAdd, Int.reduceSub, Int.reduceMul, Int.reduceToNat] at ih
        rw [L_slices_Index_sl_int_int_0_eq]
        simp (maxSteps := 1000000) (disch := first | omega | (simp only [List.length_cons, List.length_nil, List.length_append, List.length_map, List.length_take, List.length_drop]; omega)) only [go_sem, ↓reduceIte, Nat.reduceSub, Nat.reduceAdd, Nat.reduceMul, Nat.reduceLeDiff, Nat.reduceLT, Nat.reduceEqDiff, Nat.reduceBEq, Int.reduceLE, Int.reduceLT, Int.reduceEq, Int.reduceNeg, Int.reduceAdd, Int.reduceSub, Int.reduceMul, Int.reduceToNat, i_slices_Index_sl_int_int_b0, hd, c', ih]
theorem conf_Has_ev (l : List Int) (hl : l.length ≤ 1048576) (x : Int) : Ev tab G0 n_conf_Has [.sl true (eI .i64 l), i64 x] [] = some ([bo (decide (x ∈ l))], []) := by
  obtain ⟨h1, h2⟩ := idx_loop l hl x l.length 0 (by omega)
  have e0 : ((0 : Nat) : Int) = 0 := rfl
  rw [List.drop_zero] at h1 h2
  have key : Ev tab G0 n_slices_Contains_sl_int_int [.sl true (eI .i64 l), i64 x] [] = some ([bo (decide (x ∈ l))], []) := by
    cases hp : decide (x ∈ l)
    · have h := h1 hp
      rw [e0] at h
      have hi : Ev tab G0 n_slices_Index_sl_int_int [.sl true (eI .i64 l), i64 x] [] = some ([i64 (-1)], []) := by
        refine Ev_run t_slices_Index_sl_int_int rfl rfl ?_
        simp (maxSteps := 1000000) (disch := first | omega | (simp only [List.length_cons, List.length_nil, List.length_append, List.length_map, List.length_take, List.length_drop]; omega)) only [go_sem, ↓reduceIte, Nat.reduceSub, Nat.reduceAdd, Nat.reduceMul, Nat.reduceLeDiff, Nat.reduceLT, Nat.reduceEqDiff, Nat.reduceBEq, Int.reduceLE, Int.reduceLT, Int.reduceEq, Int.reduceNeg, Int.reduceAdd, Int.reduceSub, Int.reduceMul, Int.reduceToNat, i_slices_Index_sl_int_int, h]
      refine Ev_run t_slices_Contains_sl_int_int rfl rfl ?_
      simp (maxSteps := 1000000) (disch := first | omega | (simp only [List.length_cons, List.length_nil, List.length_append, List.length_map, List.length_take, List.length_drop]; omega)) only [go_sem, ↓reduceIte, Nat.reduceSub, Nat.reduceAdd, Nat.reduceMul, Nat.reduceLeDiff, Nat.reduceLT, Nat.reduceEqDiff, Nat.reduceBEq, Int.reduceLE, Int.reduceLT, Int.reduceEq, Int.reduceNeg, Int.reduceAdd, Int.reduceSub, Int.reduceMul, Int.reduceToNat, i_slices_Contains_sl_int_int, hi]
    · obtain ⟨j, h⟩ := h2 hp
      rw [e0] at h
      have hi : Ev tab G0 n_slices_Index_sl_int_int [.sl true (eI .i64 l), i64 x] [] = some ([i64 j], []) := by
        refine Ev_run t_slices_Index_sl_int_int rfl rfl ?_
        simp (maxSteps := 1000000) (disch := first | omega | (simp only [List.length_cons, List.length_nil, List.length_append, List.length_map, List.length_take, List.length_drop]; omega)) only [go_sem, ↓reduceIte, Nat.reduceSub, Nat.reduceAdd, Nat.reduceMul, Nat.reduceLeDiff, Nat.reduceLT, Nat.reduceEqDiff, Nat.reduceBEq, Int.reduceLE, Int.reduceLT, Int.reduceEq, Int.reduceNeg, Int.reduceAdd, Int.reduceSub, Int.reduceMul, Int.reduceToNat, i_slices_Index_sl_int_int, h]
      refine Ev_run t_slices_Contains_sl_int_int rfl rfl ?_
      simp (maxSteps := 1000000) (disch := first | omega | (simp only [List.length_cons, List.length_nil, List.length_append, List.length_map, List.length_take, List.length_drop]; omega)) only [go_sem, ↓reduceIte, Nat.reduceSub, Nat.reduceAdd, Nat.reduceMul, Nat.reduceLeDiff, Nat.reduceLT, Nat.reduceEqDiff, Nat.reduceBEq, Int.reduceLE, Int.reduceLT, Int.reduceEq, Int.reduceNeg, Int.reduceAdd, Int.reduceSub, Int.reduceMul, Int.reduceToNat, i_slices_Contains_sl_int_int, hi]
  refine Ev_run t_conf_Has rfl rfl ?_
  simp (maxSteps := 1000000) (disch := first | omega | (simp only [List.length_cons, List.length_nil, List.length_append, List.length_map, List.length_take, List.length_drop]; omega)) only [go_sem, ↓reduceIte, Nat.reduceSub, Nat.reduceAdd, Nat.reduceMul, Nat.reduceLeDiff, Nat.reduceLT, Nat.reduceEqDiff, Nat.reduceBEq, Int.reduceLE, Int.reduceLT, Int.reduceEq, Int.reduceNeg, Int.reduceAdd, Int.reduceSub, Int.reduceMul, Int.reduceToNat, i_conf_Has, key]

end Go.Proofs.Ytkfaahjcncpmhaa
