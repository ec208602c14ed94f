/-
  The document's message writer.
-/
import Derived.Test.YtkfaahjcncpmhaaLMsg
set_option linter.unusedSimpArgs false
set_option linter.unusedVariables false
set_option maxRecDepth 200000
set_option maxHeartbeats 4000000
namespace Go.Proofs.Ytkfaahjcncpmhaa
open Go.Ev

theorem rw_loopC (m : MG) (l : List Int) (hl : l.length = 7) : ∀ (n i : Nat) (w : Wr), n + i = l.length → w.b ≠ [] → w.b.length + 9 * n ≤ 1073741824 → L_ref14_Write_0 (s_ref14_Write_K0 (.ptr 0 0) (.ptr 1 0) (.sl true (eI .i64 l)) (i64 i) [some (oMs m), some (oWr (.row 2 w.b.length) w.bad), some (rowB2 w.b), none, none, none, none, none, none, none]) = some (.exit 0, s_ref14_Write_J0 (.ptr 0 0) (.ptr 1 0) [some (oMs m), some (oWr (.row 2 (w.rmem (l.drop i)).b.length) (w.rmem (l.drop i)).bad), some (rowB2 (w.rmem (l.drop i)).b), none, none, none, none, none, none, none])
  | 0, i, w, h, hne, hb => by
    rw [List.drop_of_length_le (by omega), L_ref14_Write_0_eq]
    simp only [Wr.rmem]
    simp (maxSteps := 1000000) (disch := first | omega | (simp only [lens, List.length_map]; omega)) only [go_sem, ↓reduceIte, Nat.reduceSub, Nat.reduceAdd, Nat.reduceMul, Nat.reduceLeDiff, Nat.reduceLT, Nat.reduceEqDiff, Nat.reduceBEq, Int.reduceLE, Int.reduceLT, Int.reduceEq, Int.reduceNeg, Int.reduceAdd, Int.reduceSub, Int.reduceMul, Int.reduceToNat, i_ref14_Write_b0]
  | n + 1, i, w, h, hne, hb => by
    rw [drop_step (d := 0) (by omega), L_ref14_Write_0_eq]
    simp only [Wr.rmem]
    have hx1 := cnt1_len w (l.getD i 0)
    have hn1 := cnts_ne w hne [l.getD i 0]
    have h1 := ref14_count_ev w (l.getD i 0) (by omega)
    have ih := rw_loopC m l hl n (i + 1) _ (by omega) hn1 (by omega)
    rw [inW_ne hne, inW_ne hn1] at h1
    generalize w.cnts [l.getD i 0] = w1 at *
    generalize w1.rmem (l.drop (i + 1)) = w3 at *
    generalize hd : l.getD i 0 = e at *
    try simp (maxSteps := 1000000) (disch := first | omega | (simp only [lens, List.length_map]; omega)) only [go_sem, ↓reduceIte, Nat.reduceSub, Nat.reduceAdd, Nat.reduceMul, Nat.reduceLeDiff, Nat.reduceLT, Nat.reduceEqDiff, Nat.reduceBEq, Int.reduceLE, Int.reduceLT, Int.reduceEq, Int.reduceNeg, Int.reduceAdd, Int.reduceSub, Int.reduceMul, Int.reduceToNat] at ih
    simp (maxSteps := 1000000) (disch := first | omega | (simp only [lens, List.length_map]; omega)) only [go_sem, ↓reduceIte, Nat.reduceSub, Nat.reduceAdd, Nat.reduceMul, Nat.reduceLeDiff, Nat.reduceLT, Nat.reduceEqDiff, Nat.reduceBEq, Int.reduceLE, Int.reduceLT, Int.reduceEq, Int.reduceNeg, Int.reduceAdd, Int.reduceSub, Int.reduceMul, Int.reduceToNat, i_ref14_Write_b0, hd, h1, ih]
def hRW (m : MG) (w : Wr) : Heap := if w.b = [] then [some (oMs m), some (oWr .nilsl w.bad), none, none, none, none, none, none, none, none] else [some (oMs m), some (oWr (.row 2 w.b.length) w.bad), some (rowB2 w.b), none, none, none, none, none, none, none]
theorem hRW_nil {m : MG} {w : Wr} (h : w.b = []) : hRW m w = [some (oMs m), some (oWr .nilsl w.bad), none, none, none, none, none, none, none, none] := if_pos h
theorem hRW_ne {m : MG} {w : Wr} (h : w.b ≠ []) : hRW m w = [some (oMs m), some (oWr (.row 2 w.b.length) w.bad), some (rowB2 w.b), none, none, none, none, none, none, none] := if_neg h
theorem rw_loopA (m : MG) (l : List Int) (hl : l.length = 7) : ∀ (n i : Nat) (w : Wr), n + i = l.length → w.b = [] → L_ref14_Write_0 (s_ref14_Write_K0 (.ptr 0 0) (.ptr 1 0) (.sl true (eI .i64 l)) (i64 i) [some (oMs m), some (oWr .nilsl w.bad), none, none, none, none, none, none, none, none]) = some (.exit 0, s_ref14_Write_J0 (.ptr 0 0) (.ptr 1 0) (hRW m (w.rmem (l.drop i))))
  | 0, i, w, h, hne => by
    rw [List.drop_of_length_le (by omega), L_ref14_Write_0_eq]
    simp only [Wr.rmem]
    rw [hRW_nil hne]
    simp (maxSteps := 1000000) (disch := first | omega | (simp only [lens, List.length_map]; omega)) only [go_sem, ↓reduceIte, Nat.reduceSub, Nat.reduceAdd, Nat.reduceMul, Nat.reduceLeDiff, Nat.reduceLT, Nat.reduceEqDiff, Nat.reduceBEq, Int.reduceLE, Int.reduceLT, Int.reduceEq, Int.reduceNeg, Int.reduceAdd, Int.reduceSub, Int.reduceMul, Int.reduceToNat, i_ref14_Write_b0]
  | n + 1, i, w, h, hne => by
    rw [drop_step (d := 0) (by omega), L_ref14_Write_0_eq]
    simp only [Wr.rmem]
    have hx1 := cnt1_len w (l.getD i 0)
    have h0 : w.b.length = 0 := by rw [hne]; rfl
    have h1 := ref14_count_ev w (l.getD i 0) (by omega)
    by_cases hn1 : (w.cnts [l.getD i 0]).b = []
    · have ih := rw_loopA m l hl n (i + 1) _ (by omega) hn1
      rw [inW_nil hne, inW_nil hn1] at h1
      generalize w.cnts [l.getD i 0] = w1 at *
      generalize w1.rmem (l.drop (i + 1)) = w3 at *
      generalize hd : l.getD i 0 = e at *
      try simp (maxSteps := 1000000) (disch := first | omega | (simp only [lens, List.length_map]; omega)) only [go_sem, ↓reduceIte, Nat.reduceSub, Nat.reduceAdd, Nat.reduceMul, Nat.reduceLeDiff, Nat.reduceLT, Nat.reduceEqDiff, Nat.reduceBEq, Int.reduceLE, Int.reduceLT, Int.reduceEq, Int.reduceNeg, Int.reduceAdd, Int.reduceSub, Int.reduceMul, Int.reduceToNat] at ih
      simp (maxSteps := 1000000) (disch := first | omega | (simp only [lens, List.length_map]; omega)) only [go_sem, ↓reduceIte, Nat.reduceSub, Nat.reduceAdd, Nat.reduceMul, Nat.reduceLeDiff, Nat.reduceLT, Nat.reduceEqDiff, Nat.reduceBEq, Int.reduceLE, Int.reduceLT, Int.reduceEq, Int.reduceNeg, Int.reduceAdd, Int.reduceSub, Int.reduceMul, Int.reduceToNat, i_ref14_Write_b0, hd, h1, ih]
    · have ih := rw_loopC m l hl n (i + 1) _ (by omega) hn1 (by omega)
      have hn3 := rmem_ne _ hn1 (l.drop (i + 1))
      rw [hRW_ne hn3]
      rw [inW_nil hne, inW_ne hn1] at h1
      generalize w.cnts [l.getD i 0] = w1 at *
      generalize w1.rmem (l.drop (i + 1)) = w3 at *
      generalize hd : l.getD i 0 = e at *
      try simp (maxSteps := 1000000) (disch := first | omega | (simp only [lens, List.length_map]; omega)) only [go_sem, ↓reduceIte, Nat.reduceSub, Nat.reduceAdd, Nat.reduceMul, Nat.reduceLeDiff, Nat.reduceLT, Nat.reduceEqDiff, Nat.reduceBEq, Int.reduceLE, Int.reduceLT, Int.reduceEq, Int.reduceNeg, Int.reduceAdd, Int.reduceSub, Int.reduceMul, Int.reduceToNat] at ih
      simp (maxSteps := 1000000) (disch := first | omega | (simp only [lens, List.length_map]; omega)) only [go_sem, ↓reduceIte, Nat.reduceSub, Nat.reduceAdd, Nat.reduceMul, Nat.reduceLeDiff, Nat.reduceLT, Nat.reduceEqDiff, Nat.reduceBEq, Int.reduceLE, Int.reduceLT, Int.reduceEq, Int.reduceNeg, Int.reduceAdd, Int.reduceSub, Int.reduceMul, Int.reduceToNat, i_ref14_Write_b0, hd, h1, ih]
theorem oMs_ok {m : MG} {b : Bool} (h : m.ok = b) : oMs m = .var [i64 m.kd, i64 m.fr, i64 m.to, i64 m.tm, i64 m.ix, i64 m.lt, i64 m.cm, bo b, .sl true (eE m.ents), .sl true (eI .i64 m.mem), i64 m.part, .sl true (eB m.root), i64 m.tree.kind, .sl true (eB m.tree.key), .sl true (eB m.tree.value), .sl true (eB m.tree.digest), .sl true (eT m.tree.kids)] := by rw [← h]
theorem rWrite_ev (m : MG) (hf : m.fit) : Ev tab G0 n_ref14_Write [avMsg m] [] = some ([.sl true (eB m.p.endB), i64 m.p.endC], []) := by
  obtain ⟨sm1, sm2⟩ := (msg_sm m).fin
  rw [sm1, sm2]
  obtain ⟨he, hm, hr, ht⟩ := hf
  have hse := sumE_len m.ents
  have hwl := wrB_len m.tree ht
  have l1 := rmem_len ⟨[], false⟩ m.l7
  have l3 := rents_len (m.r2.cnts [(m.ents.length : Int)]) m.ents
  have l3' := cnt1_len m.r2 (m.ents.length : Int)
  have l4 := rmem_len (m.r3.cnts [(m.mem.length : Int)]) m.mem
  have l4' := cnt1_len m.r3 (m.mem.length : Int)
  have l5 := cnt1_len m.r4 m.part
  have l6 := rbyt_len m.r5 m.root 32
  have l8 := rbyt_len m.r7 (wrB m.tree) (wrB m.tree).length
  have l2 : m.r2.b.length = m.r1.b.length + 1 := by
    unfold MG.r2 Wr.ap okB
    cases m.ok <;> simp
  simp only [MG.l7, List.length_cons, List.length_nil] at l1
  change m.r1.b.length ≤ _ at l1
  change m.r3.b.length ≤ _ at l3
  change m.r4.b.length ≤ _ at l4
  change m.r5.b.length ≤ _ at l5
  change m.r6.b.length ≤ _ at l6
  change m.r.b.length ≤ m.r6.b.length + _ + _ at l8
  have n2 : m.r2.b ≠ [] := fun e => okB_ne m.ok (List.append_eq_nil_iff.1 e).2
  have n3 : m.r3.b ≠ [] := rents_ne _ (cnts_ne _ n2 _) _
  have n4 : m.r4.b ≠ [] := rmem_ne _ (cnts_ne _ n3 _) _
  have n5 : m.r5.b ≠ [] := cnts_ne _ n4 _
  have n6 : m.r6.b ≠ [] := rbyt_ne _ _ _ n5
  have n7 : m.r7.b ≠ [] := n6
  have n8 : m.r.b ≠ [] := rbyt_ne _ _ _ n7
  have h1 := rw_loopA m m.l7 rfl 7 0 ⟨[], false⟩ rfl rfl
  have h3 := ref14_entries_ev m.r2 m.ents (by omega) (by omega)
  have h4 := ref14_members_ev m.r3 m.mem (by omega) (by omega)
  have h5 := ref14_count_ev m.r4 m.part (by omega)
  have h6 := ref14_bytes_ev m.r5 m.root 32 (by omega) (by omega) (by omega)
  have h7 := ref10_Write_ev m.tree ht
  have h8 := ref14_bytes_ev m.r7 (wrB m.tree) (wrB m.tree).length (by omega) (by omega) (by change m.r6.b.length + _ ≤ _; omega)
  obtain ⟨fr, h9⟩ := ref14_end_ev m.r (by omega) n8
  rw [List.drop_zero] at h1
  change L_ref14_Write_0 _ = some (.exit 0, s_ref14_Write_J0 (.ptr 0 0) (.ptr 1 0) (hRW m m.r1)) at h1
  change _ = some ([], inW m.r3) at h3
  change _ = some ([], inW m.r4) at h4
  change _ = some ([], inW m.r5) at h5
  change _ = some ([], inW m.r6) at h6
  change _ = some ([], inW m.r) at h8
  rw [inW_ne n2, inW_ne n3] at h3
  rw [inW_ne n3, inW_ne n4] at h4
  rw [inW_ne n4, inW_ne n5] at h5
  rw [inW_ne n5, inW_ne n6] at h6
  rw [inW_ne n7, inW_ne n8] at h8
  rw [inW_ne n8] at h9
  have e7 : m.r7.b = m.r6.b := rfl
  have e7b : m.r7.bad = (m.r6.bad || decide (¬ wrC m.tree = 0)) := rfl
  have e2 : m.r2.b = m.r1.b ++ okB m.ok := rfl
  have e2b : m.r2.bad = m.r1.bad := rfl
  rw [e7, e7b] at h8
  rw [e2, e2b] at h3
  unfold MG.l7 at h1
  rw [avM_tree] at h7
  have e0 : ((0 : Nat) : Int) = 0 := rfl
  rw [e0] at h1
  have eb1 : byt 1 = 1 := rfl
  have eb0 : byt 0 = 0 := rfl
  generalize m.r.endB = eb at *
  generalize m.r.endC = ec at *
  by_cases hw : m.r1.b = []
  · rw [hRW_nil hw] at h1
    rw [hw, List.nil_append] at h3
    generalize m.r3 = w3 at *
    generalize m.r4 = w4 at *
    generalize m.r5 = w5 at *
    generalize m.r6 = w6 at *
    generalize m.r = w8 at *
    generalize m.r1 = w1 at *
    generalize wrB m.tree = wb at *
    cases hok : m.ok
    · rw [hok, show okB false = [0] from rfl, show ([0] : List UInt8).length = 1 from rfl] at h3
      rw [oMs_ok hok] at h1
      try simp (maxSteps := 1000000) (disch := first | omega | (simp only [lens, List.length_map]; omega)) only [go_sem, ↓reduceIte, Nat.reduceSub, Nat.reduceAdd, Nat.reduceMul, Nat.reduceLeDiff, Nat.reduceLT, Nat.reduceEqDiff, Nat.reduceBEq, Int.reduceLE, Int.reduceLT, Int.reduceEq, Int.reduceNeg, Int.reduceAdd, Int.reduceSub, Int.reduceMul, Int.reduceToNat] at h1
      rw [avM_ok hok]
      refine Ev_run t_ref14_Write rfl rfl ?_
      by_cases hc : wrC m.tree = 0
      · rw [hc] at h7
        rw [decide_eq_false (by simp [hc]), Bool.or_false] at h8
        simp (maxSteps := 1000000) (disch := first | omega | (simp only [lens, List.length_map]; omega)) only [go_sem, ↓reduceIte, Nat.reduceSub, Nat.reduceAdd, Nat.reduceMul, Nat.reduceLeDiff, Nat.reduceLT, Nat.reduceEqDiff, Nat.reduceBEq, Int.reduceLE, Int.reduceLT, Int.reduceEq, Int.reduceNeg, Int.reduceAdd, Int.reduceSub, Int.reduceMul, Int.reduceToNat, i_ref14_Write, eI_7, eI_7z, eI_1, eI_s1, eB_ne0, eb0, hc, h1, h3, h4, h5, h6, h7, h8, h9]
      · rw [decide_eq_true hc, Bool.or_true] at h8
        generalize wrC m.tree = wc at *
        simp (maxSteps := 1000000) (disch := first | omega | (simp only [lens, List.length_map]; omega)) only [go_sem, ↓reduceIte, Nat.reduceSub, Nat.reduceAdd, Nat.reduceMul, Nat.reduceLeDiff, Nat.reduceLT, Nat.reduceEqDiff, Nat.reduceBEq, Int.reduceLE, Int.reduceLT, Int.reduceEq, Int.reduceNeg, Int.reduceAdd, Int.reduceSub, Int.reduceMul, Int.reduceToNat, i_ref14_Write, eI_7, eI_7z, eI_1, eI_s1, eB_ne0, eb0, hc, h1, h3, h4, h5, h6, h7, h8, h9]
    · rw [hok, show okB true = [1] from rfl, show ([1] : List UInt8).length = 1 from rfl] at h3
      rw [oMs_ok hok] at h1
      try simp (maxSteps := 1000000) (disch := first | omega | (simp only [lens, List.length_map]; omega)) only [go_sem, ↓reduceIte, Nat.reduceSub, Nat.reduceAdd, Nat.reduceMul, Nat.reduceLeDiff, Nat.reduceLT, Nat.reduceEqDiff, Nat.reduceBEq, Int.reduceLE, Int.reduceLT, Int.reduceEq, Int.reduceNeg, Int.reduceAdd, Int.reduceSub, Int.reduceMul, Int.reduceToNat] at h1
      rw [avM_ok hok]
      refine Ev_run t_ref14_Write rfl rfl ?_
      by_cases hc : wrC m.tree = 0
      · rw [hc] at h7
        rw [decide_eq_false (by simp [hc]), Bool.or_false] at h8
        simp (maxSteps := 1000000) (disch := first | omega | (simp only [lens, List.length_map]; omega)) only [go_sem, ↓reduceIte, Nat.reduceSub, Nat.reduceAdd, Nat.reduceMul, Nat.reduceLeDiff, Nat.reduceLT, Nat.reduceEqDiff, Nat.reduceBEq, Int.reduceLE, Int.reduceLT, Int.reduceEq, Int.reduceNeg, Int.reduceAdd, Int.reduceSub, Int.reduceMul, Int.reduceToNat, i_ref14_Write, eI_7, eI_7z, eI_1, eI_s1, eB_ne1, eb1, hc, h1, h3, h4, h5, h6, h7, h8, h9]
      · rw [decide_eq_true hc, Bool.or_true] at h8
        generalize wrC m.tree = wc at *
        simp (maxSteps := 1000000) (disch := first | omega | (simp only [lens, List.length_map]; omega)) only [go_sem, ↓reduceIte, Nat.reduceSub, Nat.reduceAdd, Nat.reduceMul, Nat.reduceLeDiff, Nat.reduceLT, Nat.reduceEqDiff, Nat.reduceBEq, Int.reduceLE, Int.reduceLT, Int.reduceEq, Int.reduceNeg, Int.reduceAdd, Int.reduceSub, Int.reduceMul, Int.reduceToNat, i_ref14_Write, eI_7, eI_7z, eI_1, eI_s1, eB_ne1, eb1, hc, h1, h3, h4, h5, h6, h7, h8, h9]
  · rw [hRW_ne hw] at h1
    generalize m.r3 = w3 at *
    generalize m.r4 = w4 at *
    generalize m.r5 = w5 at *
    generalize m.r6 = w6 at *
    generalize m.r = w8 at *
    generalize m.r1 = w1 at *
    generalize wrB m.tree = wb at *
    cases hok : m.ok
    · rw [hok, show okB false = [0] from rfl, List.length_append, List.length_singleton] at h3
      rw [oMs_ok hok] at h1
      try simp (maxSteps := 1000000) (disch := first | omega | (simp only [lens, List.length_map]; omega)) only [go_sem, ↓reduceIte, Nat.reduceSub, Nat.reduceAdd, Nat.reduceMul, Nat.reduceLeDiff, Nat.reduceLT, Nat.reduceEqDiff, Nat.reduceBEq, Int.reduceLE, Int.reduceLT, Int.reduceEq, Int.reduceNeg, Int.reduceAdd, Int.reduceSub, Int.reduceMul, Int.reduceToNat] at h1
      rw [avM_ok hok]
      refine Ev_run t_ref14_Write rfl rfl ?_
      by_cases hc : wrC m.tree = 0
      · rw [hc] at h7
        rw [decide_eq_false (by simp [hc]), Bool.or_false] at h8
        simp (maxSteps := 1000000) (disch := first | omega | (simp only [lens, List.length_map]; omega)) only [go_sem, ↓reduceIte, Nat.reduceSub, Nat.reduceAdd, Nat.reduceMul, Nat.reduceLeDiff, Nat.reduceLT, Nat.reduceEqDiff, Nat.reduceBEq, Int.reduceLE, Int.reduceLT, Int.reduceEq, Int.reduceNeg, Int.reduceAdd, Int.reduceSub, Int.reduceMul, Int.reduceToNat, i_ref14_Write, eI_7, eI_7z, eI_1, eI_s1, eB_ne0, eb0, hc, h1, h3, h4, h5, h6, h7, h8, h9]
      · rw [decide_eq_true hc, Bool.or_true] at h8
        generalize wrC m.tree = wc at *
        simp (maxSteps := 1000000) (disch := first | omega | (simp only [lens, List.length_map]; omega)) only [go_sem, ↓reduceIte, Nat.reduceSub, Nat.reduceAdd, Nat.reduceMul, Nat.reduceLeDiff, Nat.reduceLT, Nat.reduceEqDiff, Nat.reduceBEq, Int.reduceLE, Int.reduceLT, Int.reduceEq, Int.reduceNeg, Int.reduceAdd, Int.reduceSub, Int.reduceMul, Int.reduceToNat, i_ref14_Write, eI_7, eI_7z, eI_1, eI_s1, eB_ne0, eb0, hc, h1, h3, h4, h5, h6, h7, h8, h9]
    · rw [hok, show okB true = [1] from rfl, List.length_append, List.length_singleton] at h3
      rw [oMs_ok hok] at h1
      try simp (maxSteps := 1000000) (disch := first | omega | (simp only [lens, List.length_map]; omega)) only [go_sem, ↓reduceIte, Nat.reduceSub, Nat.reduceAdd, Nat.reduceMul, Nat.reduceLeDiff, Nat.reduceLT, Nat.reduceEqDiff, Nat.reduceBEq, Int.reduceLE, Int.reduceLT, Int.reduceEq, Int.reduceNeg, Int.reduceAdd, Int.reduceSub, Int.reduceMul, Int.reduceToNat] at h1
      rw [avM_ok hok]
      refine Ev_run t_ref14_Write rfl rfl ?_
      by_cases hc : wrC m.tree = 0
      · rw [hc] at h7
        rw [decide_eq_false (by simp [hc]), Bool.or_false] at h8
        simp (maxSteps := 1000000) (disch := first | omega | (simp only [lens, List.length_map]; omega)) only [go_sem, ↓reduceIte, Nat.reduceSub, Nat.reduceAdd, Nat.reduceMul, Nat.reduceLeDiff, Nat.reduceLT, Nat.reduceEqDiff, Nat.reduceBEq, Int.reduceLE, Int.reduceLT, Int.reduceEq, Int.reduceNeg, Int.reduceAdd, Int.reduceSub, Int.reduceMul, Int.reduceToNat, i_ref14_Write, eI_7, eI_7z, eI_1, eI_s1, eB_ne1, eb1, hc, h1, h3, h4, h5, h6, h7, h8, h9]
      · rw [decide_eq_true hc, Bool.or_true] at h8
        generalize wrC m.tree = wc at *
        simp (maxSteps := 1000000) (disch := first | omega | (simp only [lens, List.length_map]; omega)) only [go_sem, ↓reduceIte, Nat.reduceSub, Nat.reduceAdd, Nat.reduceMul, Nat.reduceLeDiff, Nat.reduceLT, Nat.reduceEqDiff, Nat.reduceBEq, Int.reduceLE, Int.reduceLT, Int.reduceEq, Int.reduceNeg, Int.reduceAdd, Int.reduceSub, Int.reduceMul, Int.reduceToNat, i_ref14_Write, eI_7, eI_7z, eI_1, eI_s1, eB_ne1, eb1, hc, h1, h3, h4, h5, h6, h7, h8, h9]

end Go.Proofs.Ytkfaahjcncpmhaa
