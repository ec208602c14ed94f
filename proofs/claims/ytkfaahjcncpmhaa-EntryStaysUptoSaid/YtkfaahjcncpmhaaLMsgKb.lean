/-
  No bytes of a message: what is amiss.
-/
import Derived.Test.YtkfaahjcncpmhaaLMsg
set_option linter.unusedSimpArgs false
set_option linter.unusedVariables false
set_option maxRecDepth 200000
set_option maxHeartbeats 4000000
namespace Go.Proofs.Ytkfaahjcncpmhaa
open Go.Ev

theorem entry_end_kb (w : Wr) (hb : w.b.length ≤ 1073741824) (hne : w.b ≠ []) (h : ¬ w.endC = 0) : Ev tab G0 n_entry_writer_end [.ptr 0 0] (inW w) = some ([.nilsl, errA w.endC], [oWr (.row 1 w.b.length) w.bad, .row ty_uint8 1 true false (eB w.b), .dead]) := by
  rw [inW_ne hne]
  unfold Wr.endC at h ⊢
  obtain ⟨b, bad⟩ := w
  simp only at hb hne
  cases bad
  · simp only [Bool.false_eq_true, if_false] at h ⊢
    by_cases hl : 1048576 < b.length
    · rw [if_pos hl]
      refine Ev_run t_entry_writer_end rfl rfl ?_
      simp (maxSteps := 1000000) (disch := first | omega | (simp only [lens, List.length_map]; omega)) only [go_sem, ↓reduceIte, Nat.reduceSub, Nat.reduceAdd, Nat.reduceMul, Nat.reduceLeDiff, Nat.reduceLT, Nat.reduceEqDiff, Nat.reduceBEq, Int.reduceLE, Int.reduceLT, Int.reduceEq, Int.reduceNeg, Int.reduceAdd, Int.reduceSub, Int.reduceMul, Int.reduceToNat, i_entry_writer_end]
    · rw [if_neg hl] at h
      exact absurd rfl h
  · simp only [if_true]
    refine Ev_run t_entry_writer_end rfl rfl ?_
    simp (maxSteps := 1000000) (disch := first | omega | (simp only [lens, List.length_map]; omega)) only [go_sem, ↓reduceIte, Nat.reduceSub, Nat.reduceAdd, Nat.reduceMul, Nat.reduceLeDiff, Nat.reduceLT, Nat.reduceEqDiff, Nat.reduceBEq, Int.reduceLE, Int.reduceLT, Int.reduceEq, Int.reduceNeg, Int.reduceAdd, Int.reduceSub, Int.reduceMul, Int.reduceToNat, i_entry_writer_end]
theorem Write_kb (m : MG) (hf : m.fit) (h0 : ¬ m.p.endC = 0) : Ev tab G0 n_entry_Write [avMsg m] [] = some ([.nilsl, errA m.p.endC], [.dead]) := by
  obtain ⟨he, hm, hr, ht⟩ := hf
  have hse := sumE_len m.ents
  have hwl := wrB_len m.tree ht
  have l1 := cnts_len ⟨[], false⟩ m.l7
  have l3 := ents_len (m.p2.cnts [(m.ents.length : Int)]) m.ents
  have l3' := cnt1_len m.p2 (m.ents.length : Int)
  have l4 := cnts_len (m.p3.cnts [(m.mem.length : Int)]) m.mem
  have l4' := cnt1_len m.p3 (m.mem.length : Int)
  have l5 := cnt1_len m.p4 m.part
  have l6 := byt_len m.p5 m.root 32
  have l8 := byt_len m.p7 (wrB m.tree) (wrB m.tree).length
  have l2 : m.p2.b.length = m.p1.b.length + 1 := by
    unfold MG.p2 Wr.ap okB
    cases m.ok <;> simp
  simp only [MG.l7, List.length_cons, List.length_nil] at l1
  change m.p1.b.length ≤ _ at l1
  change m.p3.b.length ≤ _ at l3
  change m.p4.b.length ≤ _ at l4
  change m.p5.b.length ≤ _ at l5
  change m.p6.b.length ≤ _ at l6
  change m.p.b.length ≤ m.p6.b.length + _ + _ at l8
  have n2 : m.p2.b ≠ [] := fun e => okB_ne m.ok (List.append_eq_nil_iff.1 e).2
  have n3 : m.p3.b ≠ [] := ents_ne _ (cnts_ne _ n2 _) _
  have n4 : m.p4.b ≠ [] := cnts_ne _ (cnts_ne _ n3 _) _
  have n5 : m.p5.b ≠ [] := cnts_ne _ n4 _
  have n6 : m.p6.b ≠ [] := byt_ne _ _ _ n5
  have n7 : m.p7.b ≠ [] := n6
  have n8 : m.p.b ≠ [] := byt_ne _ _ _ n7
  have h1 := entry_counts_ev ⟨[], false⟩ m.l7 (by simp [MG.l7]) (by simp [MG.l7])
  have h3 := entry_entries_ev m.p2 m.ents (by omega) (by omega)
  have h4 := entry_members_ev m.p3 m.mem (by omega) (by omega)
  have h5 := entry_counts_ev m.p4 [m.part] (by simp) (by simp only [List.length_cons, List.length_nil]; omega)
  have h6 := entry_bytes_ev m.p5 m.root 32 (by omega) (by omega) (by omega)
  have h7 := code_Write_ev m.tree ht
  have h8 := entry_bytes_ev m.p7 (wrB m.tree) (wrB m.tree).length (by omega) (by omega) (by change m.p6.b.length + _ ≤ _; omega)
  have h9 := entry_end_kb m.p (by omega) n8 h0
  change _ = some ([], inW m.p1) at h1
  change _ = some ([], inW m.p3) at h3
  change _ = some ([], inW m.p4) at h4
  change _ = some ([], inW m.p5) at h5
  change _ = some ([], inW m.p6) at h6
  change _ = some ([], inW m.p) at h8
  rw [inW_nil rfl] at h1
  rw [inW_ne n2, inW_ne n3] at h3
  rw [inW_ne n3, inW_ne n4] at h4
  rw [inW_ne n4, inW_ne n5] at h5
  rw [inW_ne n5, inW_ne n6] at h6
  rw [inW_ne n7, inW_ne n8] at h8
  rw [inW_ne n8] at h9
  have e7 : m.p7.b = m.p6.b := rfl
  have e7b : m.p7.bad = (m.p6.bad || decide (¬ wrC m.tree = 0)) := rfl
  have e2 : m.p2.b = m.p1.b ++ okB m.ok := rfl
  have e2b : m.p2.bad = m.p1.bad := rfl
  rw [e7, e7b] at h8
  rw [e2, e2b] at h3
  unfold MG.l7 at h1
  rw [avM_tree] at h7
  have eb1 : byt 1 = 1 := rfl
  have eb0 : byt 0 = 0 := rfl
  generalize m.p.endC = ec at *
  clear h0
  by_cases hw : m.p1.b = []
  · rw [inW_nil hw] at h1
    rw [hw, List.nil_append] at h3
    generalize m.p1.bad = b1 at *
    generalize m.p3 = w3 at *
    generalize m.p4 = w4 at *
    generalize m.p5 = w5 at *
    generalize m.p6 = w6 at *
    generalize m.p = w8 at *
    generalize wrB m.tree = wb at *
    cases hok : m.ok
    · rw [hok, show okB false = [0] from rfl, show ([0] : List UInt8).length = 1 from rfl] at h3
      rw [avM_ok hok]
      refine Ev_run t_entry_Write rfl rfl ?_
      by_cases hc : wrC m.tree = 0
      · rw [hc, errV, if_pos rfl] at h7
        rw [decide_eq_false (by simp [hc])] at h8
        cases hb6 : w6.bad
        · simp only [hb6, Bool.or_false, Bool.or_true, Bool.false_or, Bool.true_or] at h6 h8
          simp (maxSteps := 1000000) (disch := first | omega | (simp only [lens, List.length_map]; omega)) only [go_sem, ↓reduceIte, Nat.reduceSub, Nat.reduceAdd, Nat.reduceMul, Nat.reduceLeDiff, Nat.reduceLT, Nat.reduceEqDiff, Nat.reduceBEq, Int.reduceLE, Int.reduceLT, Int.reduceEq, Int.reduceNeg, Int.reduceAdd, Int.reduceSub, Int.reduceMul, Int.reduceToNat, i_entry_Write, eI_7, eI_7z, eI_1, eI_s1, eB_ne0, eb0, h1, h3, h4, h5, h6, h7, h8, h9]
        · simp only [hb6, Bool.or_false, Bool.or_true, Bool.false_or, Bool.true_or] at h6 h8
          simp (maxSteps := 1000000) (disch := first | omega | (simp only [lens, List.length_map]; omega)) only [go_sem, ↓reduceIte, Nat.reduceSub, Nat.reduceAdd, Nat.reduceMul, Nat.reduceLeDiff, Nat.reduceLT, Nat.reduceEqDiff, Nat.reduceBEq, Int.reduceLE, Int.reduceLT, Int.reduceEq, Int.reduceNeg, Int.reduceAdd, Int.reduceSub, Int.reduceMul, Int.reduceToNat, i_entry_Write, eI_7, eI_7z, eI_1, eI_s1, eB_ne0, eb0, h1, h3, h4, h5, h6, h7, h8, h9]
      · rw [errV, if_neg hc] at h7
        rw [decide_eq_true hc] at h8
        generalize wrC m.tree = wc at *
        cases hb6 : w6.bad
        · simp only [hb6, Bool.or_false, Bool.or_true, Bool.false_or, Bool.true_or] at h6 h8
          simp (maxSteps := 1000000) (disch := first | omega | (simp only [lens, List.length_map]; omega)) only [go_sem, ↓reduceIte, Nat.reduceSub, Nat.reduceAdd, Nat.reduceMul, Nat.reduceLeDiff, Nat.reduceLT, Nat.reduceEqDiff, Nat.reduceBEq, Int.reduceLE, Int.reduceLT, Int.reduceEq, Int.reduceNeg, Int.reduceAdd, Int.reduceSub, Int.reduceMul, Int.reduceToNat, i_entry_Write, eI_7, eI_7z, eI_1, eI_s1, eB_ne0, eb0, h1, h3, h4, h5, h6, h7, h8, h9]
        · simp only [hb6, Bool.or_false, Bool.or_true, Bool.false_or, Bool.true_or] at h6 h8
          simp (maxSteps := 1000000) (disch := first | omega | (simp only [lens, List.length_map]; omega)) only [go_sem, ↓reduceIte, Nat.reduceSub, Nat.reduceAdd, Nat.reduceMul, Nat.reduceLeDiff, Nat.reduceLT, Nat.reduceEqDiff, Nat.reduceBEq, Int.reduceLE, Int.reduceLT, Int.reduceEq, Int.reduceNeg, Int.reduceAdd, Int.reduceSub, Int.reduceMul, Int.reduceToNat, i_entry_Write, eI_7, eI_7z, eI_1, eI_s1, eB_ne0, eb0, h1, h3, h4, h5, h6, h7, h8, h9]
    · rw [hok, show okB true = [1] from rfl, show ([1] : List UInt8).length = 1 from rfl] at h3
      rw [avM_ok hok]
      refine Ev_run t_entry_Write rfl rfl ?_
      by_cases hc : wrC m.tree = 0
      · rw [hc, errV, if_pos rfl] at h7
        rw [decide_eq_false (by simp [hc])] at h8
        cases hb6 : w6.bad
        · simp only [hb6, Bool.or_false, Bool.or_true, Bool.false_or, Bool.true_or] at h6 h8
          simp (maxSteps := 1000000) (disch := first | omega | (simp only [lens, List.length_map]; omega)) only [go_sem, ↓reduceIte, Nat.reduceSub, Nat.reduceAdd, Nat.reduceMul, Nat.reduceLeDiff, Nat.reduceLT, Nat.reduceEqDiff, Nat.reduceBEq, Int.reduceLE, Int.reduceLT, Int.reduceEq, Int.reduceNeg, Int.reduceAdd, Int.reduceSub, Int.reduceMul, Int.reduceToNat, i_entry_Write, eI_7, eI_7z, eI_1, eI_s1, eB_ne1, eb1, h1, h3, h4, h5, h6, h7, h8, h9]
        · simp only [hb6, Bool.or_false, Bool.or_true, Bool.false_or, Bool.true_or] at h6 h8
          simp (maxSteps := 1000000) (disch := first | omega | (simp only [lens, List.length_map]; omega)) only [go_sem, ↓reduceIte, Nat.reduceSub, Nat.reduceAdd, Nat.reduceMul, Nat.reduceLeDiff, Nat.reduceLT, Nat.reduceEqDiff, Nat.reduceBEq, Int.reduceLE, Int.reduceLT, Int.reduceEq, Int.reduceNeg, Int.reduceAdd, Int.reduceSub, Int.reduceMul, Int.reduceToNat, i_entry_Write, eI_7, eI_7z, eI_1, eI_s1, eB_ne1, eb1, h1, h3, h4, h5, h6, h7, h8, h9]
      · rw [errV, if_neg hc] at h7
        rw [decide_eq_true hc] at h8
        generalize wrC m.tree = wc at *
        cases hb6 : w6.bad
        · simp only [hb6, Bool.or_false, Bool.or_true, Bool.false_or, Bool.true_or] at h6 h8
          simp (maxSteps := 1000000) (disch := first | omega | (simp only [lens, List.length_map]; omega)) only [go_sem, ↓reduceIte, Nat.reduceSub, Nat.reduceAdd, Nat.reduceMul, Nat.reduceLeDiff, Nat.reduceLT, Nat.reduceEqDiff, Nat.reduceBEq, Int.reduceLE, Int.reduceLT, Int.reduceEq, Int.reduceNeg, Int.reduceAdd, Int.reduceSub, Int.reduceMul, Int.reduceToNat, i_entry_Write, eI_7, eI_7z, eI_1, eI_s1, eB_ne1, eb1, h1, h3, h4, h5, h6, h7, h8, h9]
        · simp only [hb6, Bool.or_false, Bool.or_true, Bool.false_or, Bool.true_or] at h6 h8
          simp (maxSteps := 1000000) (disch := first | omega | (simp only [lens, List.length_map]; omega)) only [go_sem, ↓reduceIte, Nat.reduceSub, Nat.reduceAdd, Nat.reduceMul, Nat.reduceLeDiff, Nat.reduceLT, Nat.reduceEqDiff, Nat.reduceBEq, Int.reduceLE, Int.reduceLT, Int.reduceEq, Int.reduceNeg, Int.reduceAdd, Int.reduceSub, Int.reduceMul, Int.reduceToNat, i_entry_Write, eI_7, eI_7z, eI_1, eI_s1, eB_ne1, eb1, h1, h3, h4, h5, h6, h7, h8, h9]
  · rw [inW_ne hw] at h1
    generalize m.p3 = w3 at *
    generalize m.p4 = w4 at *
    generalize m.p5 = w5 at *
    generalize m.p6 = w6 at *
    generalize m.p = w8 at *
    generalize m.p1 = w1 at *
    generalize wrB m.tree = wb at *
    cases hok : m.ok
    · rw [hok, show okB false = [0] from rfl, List.length_append, List.length_singleton] at h3
      rw [avM_ok hok]
      refine Ev_run t_entry_Write rfl rfl ?_
      by_cases hc : wrC m.tree = 0
      · rw [hc, errV, if_pos rfl] at h7
        rw [decide_eq_false (by simp [hc])] at h8
        cases hb6 : w6.bad
        · simp only [hb6, Bool.or_false, Bool.or_true, Bool.false_or, Bool.true_or] at h6 h8
          simp (maxSteps := 1000000) (disch := first | omega | (simp only [lens, List.length_map]; omega)) only [go_sem, ↓reduceIte, Nat.reduceSub, Nat.reduceAdd, Nat.reduceMul, Nat.reduceLeDiff, Nat.reduceLT, Nat.reduceEqDiff, Nat.reduceBEq, Int.reduceLE, Int.reduceLT, Int.reduceEq, Int.reduceNeg, Int.reduceAdd, Int.reduceSub, Int.reduceMul, Int.reduceToNat, i_entry_Write, eI_7, eI_7z, eI_1, eI_s1, eB_ne0, eb0, h1, h3, h4, h5, h6, h7, h8, h9]
        · simp only [hb6, Bool.or_false, Bool.or_true, Bool.false_or, Bool.true_or] at h6 h8
          simp (maxSteps := 1000000) (disch := first | omega | (simp only [lens, List.length_map]; omega)) only [go_sem, ↓reduceIte, Nat.reduceSub, Nat.reduceAdd, Nat.reduceMul, Nat.reduceLeDiff, Nat.reduceLT, Nat.reduceEqDiff, Nat.reduceBEq, Int.reduceLE, Int.reduceLT, Int.reduceEq, Int.reduceNeg, Int.reduceAdd, Int.reduceSub, Int.reduceMul, Int.reduceToNat, i_entry_Write, eI_7, eI_7z, eI_1, eI_s1, eB_ne0, eb0, h1, h3, h4, h5, h6, h7, h8, h9]
      · rw [errV, if_neg hc] at h7
        rw [decide_eq_true hc] at h8
        generalize wrC m.tree = wc at *
        cases hb6 : w6.bad
        · simp only [hb6, Bool.or_false, Bool.or_true, Bool.false_or, Bool.true_or] at h6 h8
          simp (maxSteps := 1000000) (disch := first | omega | (simp only [lens, List.length_map]; omega)) only [go_sem, ↓reduceIte, Nat.reduceSub, Nat.reduceAdd, Nat.reduceMul, Nat.reduceLeDiff, Nat.reduceLT, Nat.reduceEqDiff, Nat.reduceBEq, Int.reduceLE, Int.reduceLT, Int.reduceEq, Int.reduceNeg, Int.reduceAdd, Int.reduceSub, Int.reduceMul, Int.reduceToNat, i_entry_Write, eI_7, eI_7z, eI_1, eI_s1, eB_ne0, eb0, h1, h3, h4, h5, h6, h7, h8, h9]
        · simp only [hb6, Bool.or_false, Bool.or_true, Bool.false_or, Bool.true_or] at h6 h8
          simp (maxSteps := 1000000) (disch := first | omega | (simp only [lens, List.length_map]; omega)) only [go_sem, ↓reduceIte, Nat.reduceSub, Nat.reduceAdd, Nat.reduceMul, Nat.reduceLeDiff, Nat.reduceLT, Nat.reduceEqDiff, Nat.reduceBEq, Int.reduceLE, Int.reduceLT, Int.reduceEq, Int.reduceNeg, Int.reduceAdd, Int.reduceSub, Int.reduceMul, Int.reduceToNat, i_entry_Write, eI_7, eI_7z, eI_1, eI_s1, eB_ne0, eb0, h1, h3, h4, h5, h6, h7, h8, h9]
    · rw [hok, show okB true = [1] from rfl, List.length_append, List.length_singleton] at h3
      rw [avM_ok hok]
      refine Ev_run t_entry_Write rfl rfl ?_
      by_cases hc : wrC m.tree = 0
      · rw [hc, errV, if_pos rfl] at h7
        rw [decide_eq_false (by simp [hc])] at h8
        cases hb6 : w6.bad
        · simp only [hb6, Bool.or_false, Bool.or_true, Bool.false_or, Bool.true_or] at h6 h8
          simp (maxSteps := 1000000) (disch := first | omega | (simp only [lens, List.length_map]; omega)) only [go_sem, ↓reduceIte, Nat.reduceSub, Nat.reduceAdd, Nat.reduceMul, Nat.reduceLeDiff, Nat.reduceLT, Nat.reduceEqDiff, Nat.reduceBEq, Int.reduceLE, Int.reduceLT, Int.reduceEq, Int.reduceNeg, Int.reduceAdd, Int.reduceSub, Int.reduceMul, Int.reduceToNat, i_entry_Write, eI_7, eI_7z, eI_1, eI_s1, eB_ne1, eb1, h1, h3, h4, h5, h6, h7, h8, h9]
        · simp only [hb6, Bool.or_false, Bool.or_true, Bool.false_or, Bool.true_or] at h6 h8
          simp (maxSteps := 1000000) (disch := first | omega | (simp only [lens, List.length_map]; omega)) only [go_sem, ↓reduceIte, Nat.reduceSub, Nat.reduceAdd, Nat.reduceMul, Nat.reduceLeDiff, Nat.reduceLT, Nat.reduceEqDiff, Nat.reduceBEq, Int.reduceLE, Int.reduceLT, Int.reduceEq, Int.reduceNeg, Int.reduceAdd, Int.reduceSub, Int.reduceMul, Int.reduceToNat, i_entry_Write, eI_7, eI_7z, eI_1, eI_s1, eB_ne1, eb1, h1, h3, h4, h5, h6, h7, h8, h9]
      · rw [errV, if_neg hc] at h7
        rw [decide_eq_true hc] at h8
        generalize wrC m.tree = wc at *
        cases hb6 : w6.bad
        · simp only [hb6, Bool.or_false, Bool.or_true, Bool.false_or, Bool.true_or] at h6 h8
          simp (maxSteps := 1000000) (disch := first | omega | (simp only [lens, List.length_map]; omega)) only [go_sem, ↓reduceIte, Nat.reduceSub, Nat.reduceAdd, Nat.reduceMul, Nat.reduceLeDiff, Nat.reduceLT, Nat.reduceEqDiff, Nat.reduceBEq, Int.reduceLE, Int.reduceLT, Int.reduceEq, Int.reduceNeg, Int.reduceAdd, Int.reduceSub, Int.reduceMul, Int.reduceToNat, i_entry_Write, eI_7, eI_7z, eI_1, eI_s1, eB_ne1, eb1, h1, h3, h4, h5, h6, h7, h8, h9]
        · simp only [hb6, Bool.or_false, Bool.or_true, Bool.false_or, Bool.true_or] at h6 h8
          simp (maxSteps := 1000000) (disch := first | omega | (simp only [lens, List.length_map]; omega)) only [go_sem, ↓reduceIte, Nat.reduceSub, Nat.reduceAdd, Nat.reduceMul, Nat.reduceLeDiff, Nat.reduceLT, Nat.reduceEqDiff, Nat.reduceBEq, Int.reduceLE, Int.reduceLT, Int.reduceEq, Int.reduceNeg, Int.reduceAdd, Int.reduceSub, Int.reduceMul, Int.reduceToNat, i_entry_Write, eI_7, eI_7z, eI_1, eI_s1, eB_ne1, eb1, h1, h3, h4, h5, h6, h7, h8, h9]

end Go.Proofs.Ytkfaahjcncpmhaa
