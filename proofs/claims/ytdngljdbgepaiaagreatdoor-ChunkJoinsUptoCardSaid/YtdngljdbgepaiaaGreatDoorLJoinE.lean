/-
  A head and parts, laid together: the program's answer and the document's.
-/
import Derived.Test.YtdngljdbgepaiaaGreatDoorLJoinD
set_option linter.unusedSimpArgs false
set_option linter.unusedVariables false
set_option maxRecDepth 200000
set_option maxHeartbeats 4000000
namespace Go.Proofs.YtdngljdbgepaiaaGreatDoor
open Go.Ev

/-- The two answers: a tree and a code, or a place. -/
def bothJ (w : Int) (h : T) (ps : List T) : Prop :=
  (∃ (u : T) (c : Int), u.size ≤ 1048576 ∧ (0 ≤ c ∧ c ≤ 12) ∧ Ev tab G0 n_chunk_Join [i64 w, avT h, .sl true (eT ps)] [] = some ([avT u, errV c], []) ∧ Ev tab G0 n_ref11_Join [avTb tabK V1, i64 w, avT h, .sl true (eT ps)] [] = some ([avT u, i64 c, i64 (-1)], [])) ∨
  ∃ j : Nat, j ≤ 1048576 ∧ Ev tab G0 n_chunk_Join [i64 w, avT h, .sl true (eT ps)] [] = some ([avT T.no, .ifc ty_api_Spot (.ptr 0 0)], [.var [i64 j, errA 6]]) ∧ Ev tab G0 n_ref11_Join [avTb tabK V1, i64 w, avT h, .sl true (eT ps)] [] = some ([avT T.no, i64 6, i64 j], [])
theorem join_both (w : Int) (h : T) (ps : List T) (hwb : -9223372036854775808 ≤ w ∧ w < 9223372036854775808) (hs : h.size + sizeL ps ≤ 1048576) : bothJ w h ps := by
  have hll := sizeL_len ps
  have h1 := chunk_width_ev w hwb
  have hno : T.no.size ≤ 1048576 := by decide
  have e0 : avT T.no = .agg [i64 0, .sl true [], .sl true [], .sl true [], .sl true []] := rfl
  by_cases hw : 1 ≤ w ∧ w ≤ 32
  · rw [decide_eq_true hw] at h1
    have hwa : ¬ w < 1 := by omega
    have hwc : ¬ 32 < w := by omega
    have h2 := tree_Check_ev h (by omega)
    have r2 := ref04_Check_ev h (by omega)
    by_cases hc : h.chk = 0
    · rw [hc, errV, if_pos rfl] at h2
      rw [hc] at r2
      have h3 := chunk_cuts_ev h (by omega)
      have h4 := chunk_dark_ev h (by omega)
      have r3 := rDark_ev h (by omega)
      have r4 := rCuts_ev h (by omega)
      have dl := digs_len h.cuts
      have hdl : h.cuts.length ≤ 1048576 := by
        have := cuts_size h
        omega
      by_cases hl : h.cuts.length = ps.length
      · cases hd : h.drk
        · rw [hd] at h4 r3
          have h5 := join_loop w hw h (by omega) ps (by omega) (fun p hp => by have := sizeL_mem hp; omega) ps.length 0 (by omega)
          have r5 := rjoin_loop w hw h (by omega) ps (by omega) (fun p hp => by have := sizeL_mem hp; omega) ps.length 0 (by omega)
          have ez : ((0 : Nat) : Int) = 0 := rfl
          rw [List.drop_zero, ez] at h5 r5
          cases hn : jn w h ps 0 with
          | none =>
            rw [hn] at h5 r5
            simp only at h5 r5
            have h6 := join1_ev h (chk_formed hc) ps (by omega) (by omega) (by omega)
            have r6 := rfill_ev h (chk_formed hc) hd ps 0 (by omega) (by omega) (by omega)
            rw [List.drop_zero, ez] at r6
            have hfs := fill_size h (chk_formed hc) ps (by omega)
            have htk := sizeL_take ps h.cuts.length
            have hus : (h.fill ps).1.size ≤ 1048576 := by omega
            have h7 := tree_Check_ev (h.fill ps).1 (by omega)
            have r7 := ref04_Check_ev (h.fill ps).1 (by omega)
            have hcc := chk_cases (h.fill ps).1
            by_cases hu : (h.fill ps).1.chk = 0
            · rw [errV, if_pos hu] at h7
              rw [hu] at r7
              generalize h.fill ps = q at *
              obtain ⟨u, rest⟩ := q
              simp only at *
              refine .inl ⟨u, 0, hus, by omega, Ev_run t_chunk_Join rfl rfl ?_, Ev_run t_ref11_Join rfl rfl ?_⟩
              · simp (maxSteps := 1000000) (disch := first | omega | (simp only [lens, List.length_map]; omega)) only [go_sem, ↓reduceIte, Nat.reduceSub, Nat.reduceAdd, Nat.reduceMul, Nat.reduceLeDiff, Nat.reduceLT, Nat.reduceEqDiff, Nat.reduceBEq, Int.reduceLE, Int.reduceLT, Int.reduceEq, Int.reduceNeg, Int.reduceAdd, Int.reduceSub, Int.reduceMul, Int.reduceToNat, i_chunk_Join, h1, h2, h3, h4, h5, h6, h7, hl, lt_join1, errV]
              · simp (maxSteps := 1000000) (disch := first | omega | (simp only [lens, List.length_map]; omega)) only [go_sem, ↓reduceIte, Nat.reduceSub, Nat.reduceAdd, Nat.reduceMul, Nat.reduceLeDiff, Nat.reduceLT, Nat.reduceEqDiff, Nat.reduceBEq, Int.reduceLE, Int.reduceLT, Int.reduceEq, Int.reduceNeg, Int.reduceAdd, Int.reduceSub, Int.reduceMul, Int.reduceToNat, i_ref11_Join, hwa, hwc, r2, r3, r4, r5, r6, r7, dl, hl]
            · rw [errV, if_neg hu] at h7
              generalize h.fill ps = q at *
              obtain ⟨u, rest⟩ := q
              simp only at *
              generalize u.chk = c at *
              refine .inl ⟨T.no, c, hno, by omega, Ev_run t_chunk_Join rfl rfl ?_, Ev_run t_ref11_Join rfl rfl ?_⟩
              · rw [e0, errV, if_neg hu]
                simp (maxSteps := 1000000) (disch := first | omega | (simp only [lens, List.length_map]; omega)) only [go_sem, ↓reduceIte, Nat.reduceSub, Nat.reduceAdd, Nat.reduceMul, Nat.reduceLeDiff, Nat.reduceLT, Nat.reduceEqDiff, Nat.reduceBEq, Int.reduceLE, Int.reduceLT, Int.reduceEq, Int.reduceNeg, Int.reduceAdd, Int.reduceSub, Int.reduceMul, Int.reduceToNat, i_chunk_Join, h1, h2, h3, h4, h5, h6, h7, hl, lt_join1]
              · rw [e0]
                simp (maxSteps := 1000000) (disch := first | omega | (simp only [lens, List.length_map]; omega)) only [go_sem, ↓reduceIte, Nat.reduceSub, Nat.reduceAdd, Nat.reduceMul, Nat.reduceLeDiff, Nat.reduceLT, Nat.reduceEqDiff, Nat.reduceBEq, Int.reduceLE, Int.reduceLT, Int.reduceEq, Int.reduceNeg, Int.reduceAdd, Int.reduceSub, Int.reduceMul, Int.reduceToNat, i_ref11_Join, hwa, hwc, r2, r3, r4, r5, r6, r7, dl, hl, hu]
          | some q =>
            obtain ⟨c, j⟩ := q
            have hji := jn_idx ps 0 c j hn
            obtain ⟨hc0, p, hcp⟩ := jn_nz ps 0 c j hn
            have hcr := fitC_cases w h j p
            rw [← hcp] at hcr
            rw [hn] at h5 r5
            simp only at h5 r5
            by_cases h6 : c = 6
            · rw [if_pos h6] at h5 r5
              refine .inr ⟨j, by omega, Ev_run t_chunk_Join rfl rfl ?_, Ev_run t_ref11_Join rfl rfl ?_⟩
              · rw [e0]
                simp (maxSteps := 1000000) (disch := first | omega | (simp only [lens, List.length_map]; omega)) only [go_sem, ↓reduceIte, Nat.reduceSub, Nat.reduceAdd, Nat.reduceMul, Nat.reduceLeDiff, Nat.reduceLT, Nat.reduceEqDiff, Nat.reduceBEq, Int.reduceLE, Int.reduceLT, Int.reduceEq, Int.reduceNeg, Int.reduceAdd, Int.reduceSub, Int.reduceMul, Int.reduceToNat, i_chunk_Join, h1, h2, h3, h4, h5, hl]
              · rw [e0]
                simp (maxSteps := 1000000) (disch := first | omega | (simp only [lens, List.length_map]; omega)) only [go_sem, ↓reduceIte, Nat.reduceSub, Nat.reduceAdd, Nat.reduceMul, Nat.reduceLeDiff, Nat.reduceLT, Nat.reduceEqDiff, Nat.reduceBEq, Int.reduceLE, Int.reduceLT, Int.reduceEq, Int.reduceNeg, Int.reduceAdd, Int.reduceSub, Int.reduceMul, Int.reduceToNat, i_ref11_Join, hwa, hwc, r2, r3, r4, r5, dl, hl]
            · rw [if_neg h6] at h5 r5
              refine .inl ⟨T.no, c, hno, by omega, Ev_run t_chunk_Join rfl rfl ?_, Ev_run t_ref11_Join rfl rfl ?_⟩
              · rw [e0, errV, if_neg hc0]
                simp (maxSteps := 1000000) (disch := first | omega | (simp only [lens, List.length_map]; omega)) only [go_sem, ↓reduceIte, Nat.reduceSub, Nat.reduceAdd, Nat.reduceMul, Nat.reduceLeDiff, Nat.reduceLT, Nat.reduceEqDiff, Nat.reduceBEq, Int.reduceLE, Int.reduceLT, Int.reduceEq, Int.reduceNeg, Int.reduceAdd, Int.reduceSub, Int.reduceMul, Int.reduceToNat, i_chunk_Join, h1, h2, h3, h4, h5, hl]
              · rw [e0]
                simp (maxSteps := 1000000) (disch := first | omega | (simp only [lens, List.length_map]; omega)) only [go_sem, ↓reduceIte, Nat.reduceSub, Nat.reduceAdd, Nat.reduceMul, Nat.reduceLeDiff, Nat.reduceLT, Nat.reduceEqDiff, Nat.reduceBEq, Int.reduceLE, Int.reduceLT, Int.reduceEq, Int.reduceNeg, Int.reduceAdd, Int.reduceSub, Int.reduceMul, Int.reduceToNat, i_ref11_Join, hwa, hwc, r2, r3, r4, r5, dl, hl]
        · rw [hd] at h4 r3
          refine .inl ⟨T.no, 3, hno, by omega, Ev_run t_chunk_Join rfl rfl ?_, Ev_run t_ref11_Join rfl rfl ?_⟩
          · rw [e0, errV, if_neg (by omega)]
            simp (maxSteps := 1000000) (disch := first | omega | (simp only [lens, List.length_map]; omega)) only [go_sem, ↓reduceIte, Nat.reduceSub, Nat.reduceAdd, Nat.reduceMul, Nat.reduceLeDiff, Nat.reduceLT, Nat.reduceEqDiff, Nat.reduceBEq, Int.reduceLE, Int.reduceLT, Int.reduceEq, Int.reduceNeg, Int.reduceAdd, Int.reduceSub, Int.reduceMul, Int.reduceToNat, i_chunk_Join, h1, h2, h3, h4, hl]
          · rw [e0]
            simp (maxSteps := 1000000) (disch := first | omega | (simp only [lens, List.length_map]; omega)) only [go_sem, ↓reduceIte, Nat.reduceSub, Nat.reduceAdd, Nat.reduceMul, Nat.reduceLeDiff, Nat.reduceLT, Nat.reduceEqDiff, Nat.reduceBEq, Int.reduceLE, Int.reduceLT, Int.reduceEq, Int.reduceNeg, Int.reduceAdd, Int.reduceSub, Int.reduceMul, Int.reduceToNat, i_ref11_Join, hwa, hwc, r2, r3, r4, dl, hl]
      · refine .inl ⟨T.no, 3, hno, by omega, Ev_run t_chunk_Join rfl rfl ?_, Ev_run t_ref11_Join rfl rfl ?_⟩
        · rw [e0, errV, if_neg (by omega)]
          simp (maxSteps := 1000000) (disch := first | omega | (simp only [lens, List.length_map]; omega)) only [go_sem, ↓reduceIte, Nat.reduceSub, Nat.reduceAdd, Nat.reduceMul, Nat.reduceLeDiff, Nat.reduceLT, Nat.reduceEqDiff, Nat.reduceBEq, Int.reduceLE, Int.reduceLT, Int.reduceEq, Int.reduceNeg, Int.reduceAdd, Int.reduceSub, Int.reduceMul, Int.reduceToNat, i_chunk_Join, h1, h2, h3, hl]
        · rw [e0]
          cases hd : h.drk <;> rw [hd] at r3
          · simp (maxSteps := 1000000) (disch := first | omega | (simp only [lens, List.length_map]; omega)) only [go_sem, ↓reduceIte, Nat.reduceSub, Nat.reduceAdd, Nat.reduceMul, Nat.reduceLeDiff, Nat.reduceLT, Nat.reduceEqDiff, Nat.reduceBEq, Int.reduceLE, Int.reduceLT, Int.reduceEq, Int.reduceNeg, Int.reduceAdd, Int.reduceSub, Int.reduceMul, Int.reduceToNat, i_ref11_Join, hwa, hwc, r2, r3, r4, dl, hl]
          · simp (maxSteps := 1000000) (disch := first | omega | (simp only [lens, List.length_map]; omega)) only [go_sem, ↓reduceIte, Nat.reduceSub, Nat.reduceAdd, Nat.reduceMul, Nat.reduceLeDiff, Nat.reduceLT, Nat.reduceEqDiff, Nat.reduceBEq, Int.reduceLE, Int.reduceLT, Int.reduceEq, Int.reduceNeg, Int.reduceAdd, Int.reduceSub, Int.reduceMul, Int.reduceToNat, i_ref11_Join, hwa, hwc, r2, r3, r4, dl, hl]
    · have hcc := chk_cases h
      rw [errV, if_neg hc] at h2
      generalize h.chk = c at *
      refine .inl ⟨T.no, c, hno, by omega, Ev_run t_chunk_Join rfl rfl ?_, Ev_run t_ref11_Join rfl rfl ?_⟩
      · rw [e0, errV, if_neg hc]
        simp (maxSteps := 1000000) (disch := first | omega | (simp only [lens, List.length_map]; omega)) only [go_sem, ↓reduceIte, Nat.reduceSub, Nat.reduceAdd, Nat.reduceMul, Nat.reduceLeDiff, Nat.reduceLT, Nat.reduceEqDiff, Nat.reduceBEq, Int.reduceLE, Int.reduceLT, Int.reduceEq, Int.reduceNeg, Int.reduceAdd, Int.reduceSub, Int.reduceMul, Int.reduceToNat, i_chunk_Join, h1, h2]
      · rw [e0]
        simp (maxSteps := 1000000) (disch := first | omega | (simp only [lens, List.length_map]; omega)) only [go_sem, ↓reduceIte, Nat.reduceSub, Nat.reduceAdd, Nat.reduceMul, Nat.reduceLeDiff, Nat.reduceLT, Nat.reduceEqDiff, Nat.reduceBEq, Int.reduceLE, Int.reduceLT, Int.reduceEq, Int.reduceNeg, Int.reduceAdd, Int.reduceSub, Int.reduceMul, Int.reduceToNat, i_ref11_Join, hwa, hwc, r2, hc]
  · rw [decide_eq_false hw] at h1
    refine .inl ⟨T.no, 1, hno, by omega, Ev_run t_chunk_Join rfl rfl ?_, Ev_run t_ref11_Join rfl rfl ?_⟩
    · rw [e0, errV, if_neg (by omega)]
      simp (maxSteps := 1000000) (disch := first | omega | (simp only [lens, List.length_map]; omega)) only [go_sem, ↓reduceIte, Nat.reduceSub, Nat.reduceAdd, Nat.reduceMul, Nat.reduceLeDiff, Nat.reduceLT, Nat.reduceEqDiff, Nat.reduceBEq, Int.reduceLE, Int.reduceLT, Int.reduceEq, Int.reduceNeg, Int.reduceAdd, Int.reduceSub, Int.reduceMul, Int.reduceToNat, i_chunk_Join, h1]
    · rw [e0]
      by_cases hwa : w < 1
      · simp (maxSteps := 1000000) (disch := first | omega | (simp only [lens, List.length_map]; omega)) only [go_sem, ↓reduceIte, Nat.reduceSub, Nat.reduceAdd, Nat.reduceMul, Nat.reduceLeDiff, Nat.reduceLT, Nat.reduceEqDiff, Nat.reduceBEq, Int.reduceLE, Int.reduceLT, Int.reduceEq, Int.reduceNeg, Int.reduceAdd, Int.reduceSub, Int.reduceMul, Int.reduceToNat, i_ref11_Join, hwa]
      · have hwc : 32 < w := by omega
        simp (maxSteps := 1000000) (disch := first | omega | (simp only [lens, List.length_map]; omega)) only [go_sem, ↓reduceIte, Nat.reduceSub, Nat.reduceAdd, Nat.reduceMul, Nat.reduceLeDiff, Nat.reduceLT, Nat.reduceEqDiff, Nat.reduceBEq, Int.reduceLE, Int.reduceLT, Int.reduceEq, Int.reduceNeg, Int.reduceAdd, Int.reduceSub, Int.reduceMul, Int.reduceToNat, i_ref11_Join, hwa, hwc]

end Go.Proofs.YtdngljdbgepaiaaGreatDoor
