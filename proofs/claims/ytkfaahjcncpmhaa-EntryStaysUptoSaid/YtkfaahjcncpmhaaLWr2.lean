/-
  A writer's functions.
-/
import Derived.Test.YtkfaahjcncpmhaaLWr
set_option linter.unusedSimpArgs false
set_option linter.unusedVariables false
set_option maxRecDepth 200000
set_option maxHeartbeats 4000000
namespace Go.Proofs.Ytkfaahjcncpmhaa
open Go.Ev


theorem cnts_loopB (l : List Int) (hl : l.length ≤ 1048576) : ∀ (n i : Nat) (w : Wr), n + i = l.length → w.b ≠ [] → w.b.length + 9 * n ≤ 1073741824 → L_entry_writer_counts_0 (s_entry_writer_counts_K0 (.ptr 2 0) (.sl true (eI .i64 l)) (i64 l.length) (i64 i) [none, some (rowB2 w.b), some (oWr (.row 1 w.b.length) w.bad)]) = some ((if (l.drop i).any badN = true then .ret else .exit 0), s_entry_writer_counts_J0 [none, some (rowB2 (w.cnts (l.drop i)).b), some (oWr (.row 1 (w.cnts (l.drop i)).b.length) (w.cnts (l.drop i)).bad)])
  | 0, i, w, h, hne, hb => by
    rw [List.drop_of_length_le (by omega), L_entry_writer_counts_0_eq]
    simp only [List.any_nil, Wr.cnts, Bool.false_eq_true, if_false]
    simp (maxSteps := 1000000) (disch := first | omega | (simp only [lens, List.length_map]; omega)) only [go_sem, ↓reduceIte, Nat.reduceSub, Nat.reduceAdd, Nat.reduceMul, Nat.reduceLeDiff, Nat.reduceLT, Nat.reduceEqDiff, Nat.reduceBEq, Int.reduceLE, Int.reduceLT, Int.reduceEq, Int.reduceNeg, Int.reduceAdd, Int.reduceSub, Int.reduceMul, Int.reduceToNat, i_entry_writer_counts_b0]
  | n + 1, i, w, h, hne, hb => by
    rw [drop_step (d := 0) (by omega), L_entry_writer_counts_0_eq, List.any_cons]
    by_cases c1 : l.getD i 0 < 0
    · rw [cnts_bad (badN_lo c1), badN_lo c1, Bool.true_or, if_pos rfl]
      generalize hd : l.getD i 0 = x at *
      simp (maxSteps := 1000000) (disch := first | omega | (simp only [lens, List.length_map]; omega)) only [go_sem, ↓reduceIte, Nat.reduceSub, Nat.reduceAdd, Nat.reduceMul, Nat.reduceLeDiff, Nat.reduceLT, Nat.reduceEqDiff, Nat.reduceBEq, Int.reduceLE, Int.reduceLT, Int.reduceEq, Int.reduceNeg, Int.reduceAdd, Int.reduceSub, Int.reduceMul, Int.reduceToNat, i_entry_writer_counts_b0, hd, c1]
    · by_cases c2 : 1152921504606846976 < l.getD i 0
      · rw [cnts_bad (badN_hi c2), badN_hi c2, Bool.true_or, if_pos rfl]
        generalize hd : l.getD i 0 = x at *
        simp (maxSteps := 1000000) (disch := first | omega | (simp only [lens, List.length_map]; omega)) only [go_sem, ↓reduceIte, Nat.reduceSub, Nat.reduceAdd, Nat.reduceMul, Nat.reduceLeDiff, Nat.reduceLT, Nat.reduceEqDiff, Nat.reduceBEq, Int.reduceLE, Int.reduceLT, Int.reduceEq, Int.reduceNeg, Int.reduceAdd, Int.reduceSub, Int.reduceMul, Int.reduceToNat, i_entry_writer_counts_b0, hd, c1, c2]
      · have hk := badN_ok (n := l.getD i 0) (by omega)
        have hnl := num_len (l.getD i 0)
        have hne2 : w.b ++ num (l.getD i 0) ≠ [] := fun x => hne (List.append_eq_nil_iff.1 x).1
        have ih := cnts_loopB l hl n (i + 1) ⟨w.b ++ num (l.getD i 0), w.bad⟩ (by omega) hne2 (by simp only [List.length_append]; omega)
        have h1 := coder_Number_ev (l.getD i 0) (by omega)
        rw [cnts_ok hk, hk, Bool.false_or]
        have hla : (w.b ++ num (l.getD i 0)).length = w.b.length + (num (l.getD i 0)).length := List.length_append
        simp only [hla] at ih
        generalize Wr.cnts ⟨w.b ++ num (l.getD i 0), w.bad⟩ (l.drop (i + 1)) = w2 at *
        generalize hd : l.getD i 0 = x at *
        generalize hnx : num x = nx at *
        try simp (maxSteps := 1000000) (disch := first | omega | (simp only [lens, List.length_map]; omega)) only [go_sem, ↓reduceIte, Nat.reduceSub, Nat.reduceAdd, Nat.reduceMul, Nat.reduceLeDiff, Nat.reduceLT, Nat.reduceEqDiff, Nat.reduceBEq, Int.reduceLE, Int.reduceLT, Int.reduceEq, Int.reduceNeg, Int.reduceAdd, Int.reduceSub, Int.reduceMul, Int.reduceToNat] at ih
        simp (maxSteps := 1000000) (disch := first | omega | (simp only [lens, List.length_map]; omega)) only [go_sem, ↓reduceIte, Nat.reduceSub, Nat.reduceAdd, Nat.reduceMul, Nat.reduceLeDiff, Nat.reduceLT, Nat.reduceEqDiff, Nat.reduceBEq, Int.reduceLE, Int.reduceLT, Int.reduceEq, Int.reduceNeg, Int.reduceAdd, Int.reduceSub, Int.reduceMul, Int.reduceToNat, i_entry_writer_counts_b0, hd, c1, c2, h1, ih]

theorem cnts_nil_loop (l : List Int) (hl : l.length ≤ 1048576) (bad : Bool) : L_entry_writer_counts_0 (s_entry_writer_counts_K0 (.ptr 2 0) (.sl true (eI .i64 l)) (i64 l.length) (i64 0) [none, none, some (oWr .nilsl bad)]) = match l with
    | [] => some (.exit 0, s_entry_writer_counts_J0 [none, none, some (oWr .nilsl bad)])
    | n :: r => if badN n = true then some (.ret, s_entry_writer_counts_J0 [none, none, some (oWr .nilsl true)]) else some ((if r.any badN = true then .ret else .exit 0), s_entry_writer_counts_J0 [none, some (rowB2 (Wr.cnts ⟨num n, bad⟩ r).b), some (oWr (.row 1 (Wr.cnts ⟨num n, bad⟩ r).b.length) (Wr.cnts ⟨num n, bad⟩ r).bad)]) := by
  cases l with
  | nil =>
    rw [L_entry_writer_counts_0_eq]
    simp only [List.length_nil]
    have en : eI .i64 [] = [] := rfl
    simp (maxSteps := 1000000) (disch := first | omega | (simp only [lens, List.length_map]; omega)) only [go_sem, ↓reduceIte, Nat.reduceSub, Nat.reduceAdd, Nat.reduceMul, Nat.reduceLeDiff, Nat.reduceLT, Nat.reduceEqDiff, Nat.reduceBEq, Int.reduceLE, Int.reduceLT, Int.reduceEq, Int.reduceNeg, Int.reduceAdd, Int.reduceSub, Int.reduceMul, Int.reduceToNat, i_entry_writer_counts_b0, en]
  | cons x r =>
    rw [L_entry_writer_counts_0_eq]
    simp only
    have hd : (x :: r).getD 0 0 = x := rfl
    have hlr : (x :: r).length = r.length + 1 := rfl
    by_cases c1 : x < 0
    · rw [badN_lo c1, if_pos rfl]
      generalize x :: r = l at *
      simp (maxSteps := 1000000) (disch := first | omega | (simp only [lens, List.length_map]; omega)) only [go_sem, ↓reduceIte, Nat.reduceSub, Nat.reduceAdd, Nat.reduceMul, Nat.reduceLeDiff, Nat.reduceLT, Nat.reduceEqDiff, Nat.reduceBEq, Int.reduceLE, Int.reduceLT, Int.reduceEq, Int.reduceNeg, Int.reduceAdd, Int.reduceSub, Int.reduceMul, Int.reduceToNat, i_entry_writer_counts_b0, hd, c1]
    · by_cases c2 : 1152921504606846976 < x
      · rw [badN_hi c2, if_pos rfl]
        generalize x :: r = l at *
        simp (maxSteps := 1000000) (disch := first | omega | (simp only [lens, List.length_map]; omega)) only [go_sem, ↓reduceIte, Nat.reduceSub, Nat.reduceAdd, Nat.reduceMul, Nat.reduceLeDiff, Nat.reduceLT, Nat.reduceEqDiff, Nat.reduceBEq, Int.reduceLE, Int.reduceLT, Int.reduceEq, Int.reduceNeg, Int.reduceAdd, Int.reduceSub, Int.reduceMul, Int.reduceToNat, i_entry_writer_counts_b0, hd, c1, c2]
      · have hk := badN_ok (n := x) (by omega)
        have hnl := num_len x
        have h1 := coder_Number_ev x (by omega)
        have ih := cnts_loopB (x :: r) hl r.length 1 ⟨num x, bad⟩ hlr.symm (num_ne x) (by simp only; omega)
        rw [show (x :: r).drop 1 = r from rfl] at ih
        have he := num_emp x
        have e1 : ((1 : Nat) : Int) = 1 := rfl
        rw [e1] at ih
        rw [hk, if_neg (by simp)]
        simp only at ih
        generalize Wr.cnts ⟨num x, bad⟩ r = w2 at *
        generalize num x = nx at *
        generalize x :: r = l at *
        try simp (maxSteps := 1000000) (disch := first | omega | (simp only [lens, List.length_map]; omega)) only [go_sem, ↓reduceIte, Nat.reduceSub, Nat.reduceAdd, Nat.reduceMul, Nat.reduceLeDiff, Nat.reduceLT, Nat.reduceEqDiff, Nat.reduceBEq, Int.reduceLE, Int.reduceLT, Int.reduceEq, Int.reduceNeg, Int.reduceAdd, Int.reduceSub, Int.reduceMul, Int.reduceToNat] at ih
        simp (maxSteps := 1000000) (disch := first | omega | (simp only [lens, List.length_map]; omega)) only [go_sem, ↓reduceIte, Nat.reduceSub, Nat.reduceAdd, Nat.reduceMul, Nat.reduceLeDiff, Nat.reduceLT, Nat.reduceEqDiff, Nat.reduceBEq, Int.reduceLE, Int.reduceLT, Int.reduceEq, Int.reduceNeg, Int.reduceAdd, Int.reduceSub, Int.reduceMul, Int.reduceToNat, i_entry_writer_counts_b0, hd, c1, c2, h1, he, ih]
theorem entry_counts_ev (w : Wr) (l : List Int) (hl : l.length ≤ 1048576) (hb : w.b.length + 9 * l.length ≤ 1073741824) : Ev tab G0 n_entry_writer_counts [.ptr 0 0, .sl true (eI .i64 l)] (inW w) = some ([], inW (w.cnts l)) := by
  by_cases hw : w.b = []
  · have h := cnts_nil_loop l hl w.bad
    rw [inW_nil hw]
    obtain ⟨b, bad⟩ := w
    simp only at hw h
    subst hw
    cases l with
    | nil =>
      simp only at h
      simp only [Wr.cnts, List.length_nil] at h ⊢
      rw [inW_nil rfl]
      have en : eI .i64 [] = [] := rfl
      rw [en] at h ⊢
      have e0 : ((0 : Nat) : Int) = 0 := rfl
      rw [e0] at h
      refine Ev_run t_entry_writer_counts rfl rfl ?_
      simp (maxSteps := 1000000) (disch := first | omega | (simp only [lens, List.length_map]; omega)) only [go_sem, ↓reduceIte, Nat.reduceSub, Nat.reduceAdd, Nat.reduceMul, Nat.reduceLeDiff, Nat.reduceLT, Nat.reduceEqDiff, Nat.reduceBEq, Int.reduceLE, Int.reduceLT, Int.reduceEq, Int.reduceNeg, Int.reduceAdd, Int.reduceSub, Int.reduceMul, Int.reduceToNat, i_entry_writer_counts, h]
    | cons n r =>
      simp only at h
      cases hn : badN n
      · rw [hn, if_neg (by simp)] at h
        rw [cnts_ok hn]
        simp only [List.nil_append]
        rw [inW_ne (cnts_ne ⟨num n, bad⟩ (num_ne n) r)]
        generalize Wr.cnts ⟨num n, bad⟩ r = w2 at *
        generalize n :: r = l at *
        refine Ev_run t_entry_writer_counts rfl rfl ?_
        cases ha : r.any badN
        · rw [ha, if_neg (by simp)] at h
          simp (maxSteps := 1000000) (disch := first | omega | (simp only [lens, List.length_map]; omega)) only [go_sem, ↓reduceIte, Nat.reduceSub, Nat.reduceAdd, Nat.reduceMul, Nat.reduceLeDiff, Nat.reduceLT, Nat.reduceEqDiff, Nat.reduceBEq, Int.reduceLE, Int.reduceLT, Int.reduceEq, Int.reduceNeg, Int.reduceAdd, Int.reduceSub, Int.reduceMul, Int.reduceToNat, i_entry_writer_counts, h]
        · rw [ha, if_pos rfl] at h
          simp (maxSteps := 1000000) (disch := first | omega | (simp only [lens, List.length_map]; omega)) only [go_sem, ↓reduceIte, Nat.reduceSub, Nat.reduceAdd, Nat.reduceMul, Nat.reduceLeDiff, Nat.reduceLT, Nat.reduceEqDiff, Nat.reduceBEq, Int.reduceLE, Int.reduceLT, Int.reduceEq, Int.reduceNeg, Int.reduceAdd, Int.reduceSub, Int.reduceMul, Int.reduceToNat, i_entry_writer_counts, h]
      · rw [hn, if_pos rfl] at h
        rw [cnts_bad hn, inW_nil rfl]
        generalize n :: r = l at *
        refine Ev_run t_entry_writer_counts rfl rfl ?_
        simp (maxSteps := 1000000) (disch := first | omega | (simp only [lens, List.length_map]; omega)) only [go_sem, ↓reduceIte, Nat.reduceSub, Nat.reduceAdd, Nat.reduceMul, Nat.reduceLeDiff, Nat.reduceLT, Nat.reduceEqDiff, Nat.reduceBEq, Int.reduceLE, Int.reduceLT, Int.reduceEq, Int.reduceNeg, Int.reduceAdd, Int.reduceSub, Int.reduceMul, Int.reduceToNat, i_entry_writer_counts, h]
  · have h := cnts_loopC l hl l.length 0 w (by omega) hw hb
    have e0 : ((0 : Nat) : Int) = 0 := rfl
    rw [e0, List.drop_zero] at h
    rw [inW_ne hw, inW_ne (cnts_ne w hw l)]
    generalize w.cnts l = w2 at *
    refine Ev_run t_entry_writer_counts rfl rfl ?_
    cases ha : l.any badN
    · rw [ha, if_neg (by simp)] at h
      simp (maxSteps := 1000000) (disch := first | omega | (simp only [lens, List.length_map]; omega)) only [go_sem, ↓reduceIte, Nat.reduceSub, Nat.reduceAdd, Nat.reduceMul, Nat.reduceLeDiff, Nat.reduceLT, Nat.reduceEqDiff, Nat.reduceBEq, Int.reduceLE, Int.reduceLT, Int.reduceEq, Int.reduceNeg, Int.reduceAdd, Int.reduceSub, Int.reduceMul, Int.reduceToNat, i_entry_writer_counts, h]
    · rw [ha, if_pos rfl] at h
      simp (maxSteps := 1000000) (disch := first | omega | (simp only [lens, List.length_map]; omega)) only [go_sem, ↓reduceIte, Nat.reduceSub, Nat.reduceAdd, Nat.reduceMul, Nat.reduceLeDiff, Nat.reduceLT, Nat.reduceEqDiff, Nat.reduceBEq, Int.reduceLE, Int.reduceLT, Int.reduceEq, Int.reduceNeg, Int.reduceAdd, Int.reduceSub, Int.reduceMul, Int.reduceToNat, i_entry_writer_counts, h]
theorem byts_ne (x : List UInt8) : byts x ≠ [] := fun h => num_ne x.length (List.append_eq_nil_iff.1 h).1
theorem emp_ne {x : List UInt8} (h : x ≠ []) : (eB x).isEmpty = false := by cases x with | nil => exact absurd rfl h | cons y l => rfl
theorem byt_ne (w : Wr) (x : List UInt8) (most : Int) (h : w.b ≠ []) : (w.byt x most).b ≠ [] := by
  unfold Wr.byt
  split
  · exact h
  · exact fun e => h (List.append_eq_nil_iff.1 e).1
theorem entry_bytes_ev (w : Wr) (x : List UInt8) (most : Int) (hx : x.length ≤ 1073741824) (hm : -9223372036854775808 ≤ most ∧ most < 9223372036854775808) (hb : w.b.length + x.length ≤ 1073741824) : Ev tab G0 n_entry_writer_bytes [.ptr 0 0, .sl true (eB x), i64 most] (inW w) = some ([], inW (w.byt x most)) := by
  have h1 := coder_Bytes_ev x hx
  have hne := byts_ne x
  have he := emp_ne hne
  have hbl := byts_len x
  obtain ⟨b, bad⟩ := w
  unfold Wr.byt
  simp only at hb ⊢
  by_cases hw : b = []
  · subst hw
    rw [inW_nil rfl]
    refine Ev_run t_entry_writer_bytes rfl rfl ?_
    cases bad
    · by_cases hc : most < x.length
      · rw [if_pos (.inr hc), inW_nil rfl]
        simp (maxSteps := 1000000) (disch := first | omega | (simp only [lens, List.length_map]; omega)) only [go_sem, ↓reduceIte, Nat.reduceSub, Nat.reduceAdd, Nat.reduceMul, Nat.reduceLeDiff, Nat.reduceLT, Nat.reduceEqDiff, Nat.reduceBEq, Int.reduceLE, Int.reduceLT, Int.reduceEq, Int.reduceNeg, Int.reduceAdd, Int.reduceSub, Int.reduceMul, Int.reduceToNat, i_entry_writer_bytes, hc]
      · rw [if_neg (by simp [hc])]
        simp only [List.nil_append]
        rw [inW_ne hne]
        generalize byts x = y at *
        simp (maxSteps := 1000000) (disch := first | omega | (simp only [lens, List.length_map]; omega)) only [go_sem, ↓reduceIte, Nat.reduceSub, Nat.reduceAdd, Nat.reduceMul, Nat.reduceLeDiff, Nat.reduceLT, Nat.reduceEqDiff, Nat.reduceBEq, Int.reduceLE, Int.reduceLT, Int.reduceEq, Int.reduceNeg, Int.reduceAdd, Int.reduceSub, Int.reduceMul, Int.reduceToNat, i_entry_writer_bytes, hc, h1, he]
    · rw [if_pos (.inl rfl), inW_nil rfl]
      simp (maxSteps := 1000000) (disch := first | omega | (simp only [lens, List.length_map]; omega)) only [go_sem, ↓reduceIte, Nat.reduceSub, Nat.reduceAdd, Nat.reduceMul, Nat.reduceLeDiff, Nat.reduceLT, Nat.reduceEqDiff, Nat.reduceBEq, Int.reduceLE, Int.reduceLT, Int.reduceEq, Int.reduceNeg, Int.reduceAdd, Int.reduceSub, Int.reduceMul, Int.reduceToNat, i_entry_writer_bytes]
  · rw [inW_ne hw]
    refine Ev_run t_entry_writer_bytes rfl rfl ?_
    cases bad
    · by_cases hc : most < x.length
      · rw [if_pos (.inr hc), inW_ne hw]
        simp (maxSteps := 1000000) (disch := first | omega | (simp only [lens, List.length_map]; omega)) only [go_sem, ↓reduceIte, Nat.reduceSub, Nat.reduceAdd, Nat.reduceMul, Nat.reduceLeDiff, Nat.reduceLT, Nat.reduceEqDiff, Nat.reduceBEq, Int.reduceLE, Int.reduceLT, Int.reduceEq, Int.reduceNeg, Int.reduceAdd, Int.reduceSub, Int.reduceMul, Int.reduceToNat, i_entry_writer_bytes, hc]
      · rw [if_neg (by simp [hc]), inW_ne (fun e => hw (List.append_eq_nil_iff.1 e).1)]
        have hla : (b ++ byts x).length = b.length + (byts x).length := List.length_append
        simp only [hla]
        generalize byts x = y at *
        simp (maxSteps := 1000000) (disch := first | omega | (simp only [lens, List.length_map]; omega)) only [go_sem, ↓reduceIte, Nat.reduceSub, Nat.reduceAdd, Nat.reduceMul, Nat.reduceLeDiff, Nat.reduceLT, Nat.reduceEqDiff, Nat.reduceBEq, Int.reduceLE, Int.reduceLT, Int.reduceEq, Int.reduceNeg, Int.reduceAdd, Int.reduceSub, Int.reduceMul, Int.reduceToNat, i_entry_writer_bytes, hc, h1]
    · rw [if_pos (.inl rfl), inW_ne hw]
      simp (maxSteps := 1000000) (disch := first | omega | (simp only [lens, List.length_map]; omega)) only [go_sem, ↓reduceIte, Nat.reduceSub, Nat.reduceAdd, Nat.reduceMul, Nat.reduceLeDiff, Nat.reduceLT, Nat.reduceEqDiff, Nat.reduceBEq, Int.reduceLE, Int.reduceLT, Int.reduceEq, Int.reduceNeg, Int.reduceAdd, Int.reduceSub, Int.reduceMul, Int.reduceToNat, i_entry_writer_bytes]

end Go.Proofs.Ytkfaahjcncpmhaa
