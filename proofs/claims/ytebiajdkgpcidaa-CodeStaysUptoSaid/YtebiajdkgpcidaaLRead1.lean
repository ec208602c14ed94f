/-
  Trees out of bytes that stay a row.
-/
import Derived.Test.YtebiajdkgpcidaaLCodeSz
import Derived.Test.YtebiajdkgpcidaaLRaw
set_option linter.unusedSimpArgs false
set_option linter.unusedVariables false
set_option maxRecDepth 200000
set_option maxHeartbeats 4000000
namespace Go.Proofs.Ytebiajdkgpcidaa
open Go.Ev

theorem NewReader_row (l : List UInt8) (h : l.length ≤ 1073741824) : Ev tab G0 n_coder_NewReader_v1 [.row 0 l.length] [rowB1 l] = some ([.ptr 1 0], [rowB1 l, rO ⟨l, false⟩]) := by
  have h1 := clone_row l h
  refine Ev_run t_coder_NewReader_v1 rfl rfl ?_
  simp (maxSteps := 1000000) (disch := first | omega | (simp only [List.length_cons, List.length_nil, List.length_append, List.length_map, List.length_take, List.length_drop]; omega)) only [go_sem, ↓reduceIte, Nat.reduceSub, Nat.reduceAdd, Nat.reduceMul, Nat.reduceLeDiff, Nat.reduceLT, Nat.reduceEqDiff, Nat.reduceBEq, Int.reduceLE, Int.reduceLT, Int.reduceEq, Int.reduceNeg, Int.reduceAdd, Int.reduceSub, Int.reduceMul, Int.reduceToNat, i_coder_NewReader_v1, h1]
theorem NewReader_v1 (l : List UInt8) (h : l.length ≤ 1073741824) : Ev tab G0 n_coder_NewReader_v1 [.sl true (eB l)] [] = some ([.ptr 0 0], [rO ⟨l, false⟩]) := by
  have h1 := clone_v1 l h
  refine Ev_run t_coder_NewReader_v1 rfl rfl ?_
  simp (maxSteps := 1000000) (disch := first | omega | (simp only [List.length_cons, List.length_nil, List.length_append, List.length_map, List.length_take, List.length_drop]; omega)) only [go_sem, ↓reduceIte, Nat.reduceSub, Nat.reduceAdd, Nat.reduceMul, Nat.reduceLeDiff, Nat.reduceLT, Nat.reduceEqDiff, Nat.reduceBEq, Int.reduceLE, Int.reduceLT, Int.reduceEq, Int.reduceNeg, Int.reduceAdd, Int.reduceSub, Int.reduceMul, Int.reduceToNat, i_coder_NewReader_v1, h1]
theorem code_Read_v1 (b : List UInt8) (h : b.length ≤ 1048576) : Ev tab G0 n_code_Read_v1 [.sl true (eB b)] [] = some ([avT (rdV b), errV (rdC b)], []) := by
  have h1 := NewReader_v1 b (by omega)
  have h2 := read1_ev 64 (by omega) ⟨b, false⟩ false (by simp only; omega)
  have hl := rdT_le 64 ⟨b, false⟩ false
  have h3 := coder_End_ev (rdR b).2.1 (Nat.le_trans hl (by simp only; omega))
  unfold rdV rdC
  have hf : (rdR b).2.1.fin = 3 ∨ (rdR b).2.1.fin = 4 ∨ (rdR b).2.1.fin = 0 := by
    unfold Rd.fin
    split
    · exact .inl rfl
    · split
      · exact .inr (.inl rfl)
      · exact .inr (.inr rfl)
  have e64 : ((64 : Nat) : Int) = 64 := rfl
  rw [e64] at h2
  change Ev tab G0 n_code_Read_1 _ _ = some ([avT (rdR b).1], insR (rdR b).2.1 (rdR b).2.2) at h2
  generalize rdR b = p at *
  obtain ⟨t, r, x⟩ := p
  simp only at *
  cases x
  · simp only [Bool.false_eq_true, if_false]
    rcases hf with hf | hf | hf
    · rw [hf, errV, if_neg (by decide)] at h3
      rw [hf, if_neg (by decide), errV, if_neg (by decide), avT_no]
      refine Ev_run t_code_Read_v1 rfl rfl ?_
      simp (maxSteps := 1000000) (disch := first | omega | (simp only [List.length_cons, List.length_nil, List.length_append, List.length_map, List.length_take, List.length_drop]; omega)) only [go_sem, ↓reduceIte, Nat.reduceSub, Nat.reduceAdd, Nat.reduceMul, Nat.reduceLeDiff, Nat.reduceLT, Nat.reduceEqDiff, Nat.reduceBEq, Int.reduceLE, Int.reduceLT, Int.reduceEq, Int.reduceNeg, Int.reduceAdd, Int.reduceSub, Int.reduceMul, Int.reduceToNat, i_code_Read_v1, h1, h2, h3, lt_code_Read_1]
    · rw [hf, errV, if_neg (by decide)] at h3
      rw [hf, if_neg (by decide), errV, if_neg (by decide), avT_no]
      refine Ev_run t_code_Read_v1 rfl rfl ?_
      simp (maxSteps := 1000000) (disch := first | omega | (simp only [List.length_cons, List.length_nil, List.length_append, List.length_map, List.length_take, List.length_drop]; omega)) only [go_sem, ↓reduceIte, Nat.reduceSub, Nat.reduceAdd, Nat.reduceMul, Nat.reduceLeDiff, Nat.reduceLT, Nat.reduceEqDiff, Nat.reduceBEq, Int.reduceLE, Int.reduceLT, Int.reduceEq, Int.reduceNeg, Int.reduceAdd, Int.reduceSub, Int.reduceMul, Int.reduceToNat, i_code_Read_v1, h1, h2, h3, lt_code_Read_1]
    · rw [hf, errV, if_pos rfl] at h3
      rw [hf, if_pos rfl, errV, if_pos rfl]
      refine Ev_run t_code_Read_v1 rfl rfl ?_
      simp (maxSteps := 1000000) (disch := first | omega | (simp only [List.length_cons, List.length_nil, List.length_append, List.length_map, List.length_take, List.length_drop]; omega)) only [go_sem, ↓reduceIte, Nat.reduceSub, Nat.reduceAdd, Nat.reduceMul, Nat.reduceLeDiff, Nat.reduceLT, Nat.reduceEqDiff, Nat.reduceBEq, Int.reduceLE, Int.reduceLT, Int.reduceEq, Int.reduceNeg, Int.reduceAdd, Int.reduceSub, Int.reduceMul, Int.reduceToNat, i_code_Read_v1, h1, h2, h3, lt_code_Read_1]
  · simp only [if_true]
    rw [if_neg (by decide), errV, if_neg (by decide), avT_no]
    refine Ev_run t_code_Read_v1 rfl rfl ?_
    simp (maxSteps := 1000000) (disch := first | omega | (simp only [List.length_cons, List.length_nil, List.length_append, List.length_map, List.length_take, List.length_drop]; omega)) only [go_sem, ↓reduceIte, Nat.reduceSub, Nat.reduceAdd, Nat.reduceMul, Nat.reduceLeDiff, Nat.reduceLT, Nat.reduceEqDiff, Nat.reduceBEq, Int.reduceLE, Int.reduceLT, Int.reduceEq, Int.reduceNeg, Int.reduceAdd, Int.reduceSub, Int.reduceMul, Int.reduceToNat, i_code_Read_v1, h1, h2, h3, lt_code_Read_1]
theorem code_Read_row (b : List UInt8) (h : b.length ≤ 1048576) : Ev tab G0 n_code_Read_v1 [.row 0 b.length] [rowB1 b] = some ([avT (rdV b), errV (rdC b)], [rowB1 b]) := by
  have h1 := NewReader_row b (by omega)
  have h2 := read1_ev 64 (by omega) ⟨b, false⟩ false (by simp only; omega)
  have hl := rdT_le 64 ⟨b, false⟩ false
  have h3 := coder_End_ev (rdR b).2.1 (Nat.le_trans hl (by simp only; omega))
  unfold rdV rdC
  have hf : (rdR b).2.1.fin = 3 ∨ (rdR b).2.1.fin = 4 ∨ (rdR b).2.1.fin = 0 := by
    unfold Rd.fin
    split
    · exact .inl rfl
    · split
      · exact .inr (.inl rfl)
      · exact .inr (.inr rfl)
  have e64 : ((64 : Nat) : Int) = 64 := rfl
  rw [e64] at h2
  change Ev tab G0 n_code_Read_1 _ _ = some ([avT (rdR b).1], insR (rdR b).2.1 (rdR b).2.2) at h2
  generalize rdR b = p at *
  obtain ⟨t, r, x⟩ := p
  simp only at *
  cases x
  · simp only [Bool.false_eq_true, if_false]
    rcases hf with hf | hf | hf
    · rw [hf, errV, if_neg (by decide)] at h3
      rw [hf, if_neg (by decide), errV, if_neg (by decide), avT_no]
      refine Ev_run t_code_Read_v1 rfl rfl ?_
      simp (maxSteps := 1000000) (disch := first | omega | (simp only [List.length_cons, List.length_nil, List.length_append, List.length_map, List.length_take, List.length_drop]; omega)) only [go_sem, ↓reduceIte, Nat.reduceSub, Nat.reduceAdd, Nat.reduceMul, Nat.reduceLeDiff, Nat.reduceLT, Nat.reduceEqDiff, Nat.reduceBEq, Int.reduceLE, Int.reduceLT, Int.reduceEq, Int.reduceNeg, Int.reduceAdd, Int.reduceSub, Int.reduceMul, Int.reduceToNat, i_code_Read_v1, h1, h2, h3, lt_code_Read_1]
    · rw [hf, errV, if_neg (by decide)] at h3
      rw [hf, if_neg (by decide), errV, if_neg (by decide), avT_no]
      refine Ev_run t_code_Read_v1 rfl rfl ?_
      simp (maxSteps := 1000000) (disch := first | omega | (simp only [List.length_cons, List.length_nil, List.length_append, List.length_map, List.length_take, List.length_drop]; omega)) only [go_sem, ↓reduceIte, Nat.reduceSub, Nat.reduceAdd, Nat.reduceMul, Nat.reduceLeDiff, Nat.reduceLT, Nat.reduceEqDiff, Nat.reduceBEq, Int.reduceLE, Int.reduceLT, Int.reduceEq, Int.reduceNeg, Int.reduceAdd, Int.reduceSub, Int.reduceMul, Int.reduceToNat, i_code_Read_v1, h1, h2, h3, lt_code_Read_1]
    · rw [hf, errV, if_pos rfl] at h3
      rw [hf, if_pos rfl, errV, if_pos rfl]
      refine Ev_run t_code_Read_v1 rfl rfl ?_
      simp (maxSteps := 1000000) (disch := first | omega | (simp only [List.length_cons, List.length_nil, List.length_append, List.length_map, List.length_take, List.length_drop]; omega)) only [go_sem, ↓reduceIte, Nat.reduceSub, Nat.reduceAdd, Nat.reduceMul, Nat.reduceLeDiff, Nat.reduceLT, Nat.reduceEqDiff, Nat.reduceBEq, Int.reduceLE, Int.reduceLT, Int.reduceEq, Int.reduceNeg, Int.reduceAdd, Int.reduceSub, Int.reduceMul, Int.reduceToNat, i_code_Read_v1, h1, h2, h3, lt_code_Read_1]
  · simp only [if_true]
    rw [if_neg (by decide), errV, if_neg (by decide), avT_no]
    refine Ev_run t_code_Read_v1 rfl rfl ?_
    simp (maxSteps := 1000000) (disch := first | omega | (simp only [List.length_cons, List.length_nil, List.length_append, List.length_map, List.length_take, List.length_drop]; omega)) only [go_sem, ↓reduceIte, Nat.reduceSub, Nat.reduceAdd, Nat.reduceMul, Nat.reduceLeDiff, Nat.reduceLT, Nat.reduceEqDiff, Nat.reduceBEq, Int.reduceLE, Int.reduceLT, Int.reduceEq, Int.reduceNeg, Int.reduceAdd, Int.reduceSub, Int.reduceMul, Int.reduceToNat, i_code_Read_v1, h1, h2, h3, lt_code_Read_1]

end Go.Proofs.Ytebiajdkgpcidaa
