/-
  The document's loop of entries.
-/
import Derived.Test.YtkfaahjcncpmhaaLRdr4
set_option linter.unusedSimpArgs false
set_option linter.unusedVariables false
set_option maxRecDepth 200000
set_option maxHeartbeats 4000000
namespace Go.Proofs.Ytkfaahjcncpmhaa
open Go.Ev

theorem eEe2 {x : Ent} : (eE [x]).isEmpty = false := rfl
theorem eE_s1 {a b : Int} {c : List UInt8} : ([[C.sc (.int .i64 0), C.sc (.int .i64 0), C.sl []]] : List (List C)).set 0 [C.sc (.int .i64 a), C.sc (.int .i64 b), C.sl (eB c)] = eE [(a, b, c)] := rfl
theorem fent1_ok (w : Rf) (h : w.ok) : w.ent1.2.ok := by
  have h1 := w.cnt_ok h
  have h2 := w.cnt.2.cnt_ok h1.1
  exact (w.cnt.2.cnt.2.bytes_ok 4096 h2.1).1
theorem fnum_left (w : Rf) : w.num.2.left ≤ w.left ∧ (w.bad = true → w.num.2.bad = true) := by
  have hb : w.byte.2.left ≤ w.left ∧ (w.bad = true → w.byte.2.bad = true) := by
    unfold Rf.byte Rf.left
    split
    · exact ⟨Nat.le_refl _, fun _ => rfl⟩
    · rename_i h
      split
      · exact ⟨Nat.le_refl _, fun _ => rfl⟩
      · exact ⟨by simp only; omega, fun x => absurd x h⟩
  simp only [Rf.num]
  split
  · exact hb
  · rename_i h2
    have hz : w.bad = true → False := fun h => h2 (hb.2 h)
    refine ⟨?_, fun h => (hz h).elim⟩
    have := hb.1
    split
    · exact this
    · split
      · exact this
      · split
        · exact this
        · simp only [Rf.left] at *; omega
theorem fcnt_left (w : Rf) : w.cnt.2.left ≤ w.left ∧ (w.bad = true → w.cnt.2.bad = true) := by
  have h := fnum_left w
  unfold Rf.cnt
  split
  · exact ⟨h.1, fun _ => rfl⟩
  · exact h
theorem fbytes_left (w : Rf) (m : Int) : (w.bytes m).2.left ≤ w.left ∧ (w.bad = true → (w.bytes m).2.bad = true) := by
  have h := fnum_left w
  simp only [Rf.bytes]
  split
  · exact ⟨h.1, fun _ => rfl⟩
  · refine ⟨?_, fun h2 => h.2 h2⟩
    have := h.1
    simp only [Rf.left] at *
    omega
theorem fent1_pr (w : Rf) (h : w.bad = false) : w.ent1.2.bad = true ∨ w.ent1.2.left + 1 ≤ w.left := by
  have h1 := fcnt_left w.cnt.2
  have h2 := fbytes_left w.cnt.2.cnt.2 4096
  rcases fcnt_pr w h with h3 | h3
  · exact .inl (h2.2 (h1.2 h3))
  · right
    simp only [Rf.ent1]
    omega
theorem fe_loopC : ∀ (n i : Nat) (w : Rf) (l : List Ent), n + i ≤ 1152921504606846976 → l ≠ [] → (l.length + w.left ≤ 1073741825 ∨ (w.bad = true ∧ l.length ≤ 1073741826)) → w.ok → L_ref14_entries_0 (s_ref14_entries_K0 (.ptr 2 0) (i64 ((n : Int) + i)) (.row 1 l.length) (i64 i) [none, some (rowE2 l), some (fO w)]) = some (.exit 0, s_ref14_entries_J0 (.row 1 (fent n w l).1.length) [none, some (rowE2 (fent n w l).1), some (fO (fent n w l).2)])
  | 0, i, w, l, hn, hl, hb, hq => by
    have e0 : ((0 : Nat) : Int) + (i : Int) = i := by omega
    rw [L_ref14_entries_0_eq, e0]
    simp only [fent]
    simp (maxSteps := 1000000) (disch := first | omega | (simp only [lens, List.length_map]; omega)) only [go_sem, ↓reduceIte, Nat.reduceSub, Nat.reduceAdd, Nat.reduceMul, Nat.reduceLeDiff, Nat.reduceLT, Nat.reduceEqDiff, Nat.reduceBEq, Int.reduceLE, Int.reduceLT, Int.reduceEq, Int.reduceNeg, Int.reduceAdd, Int.reduceSub, Int.reduceMul, Int.reduceToNat, i_ref14_entries_b0]
  | n + 1, i, w, l, hn, hl, hb, hq => by
    rw [L_ref14_entries_0_eq]
    have e1 : ((n + 1 : Nat) : Int) + (i : Int) = (n : Int) + ((i : Int) + 1) := by omega
    cases hno : w.bad
    · rw [fent_go hno]
      have h1 := fcount_ev w hq
      have hc := w.cnt_ok hq
      have h1b := fcount_ev w.cnt.2 hc.1
      have hc2 := w.cnt.2.cnt_ok hc.1
      have h1c := ref02_Bytes_r_ev w.cnt.2.cnt.2 4096 (by omega) hc2.1
      have hp := fent1_pr w hno
      have hb2 : l.length + w.left ≤ 1073741825 := by rcases hb with h | h; exact h; rw [hno] at h; cases h.1
      have hla : (l ++ [w.ent1.1]).length = l.length + 1 := by simp
      have ih := fe_loopC n (i + 1) w.ent1.2 (l ++ [w.ent1.1]) (by omega) (by simp) (by rcases hp with h | h; exact .inr ⟨h, by omega⟩; exact .inl (by omega)) (fent1_ok w hq)
      simp only [hla] at ih
      rw [show ((i + 1 : Nat) : Int) = (i : Int) + 1 from by omega] at ih
      generalize fent n w.ent1.2 (l ++ [w.ent1.1]) = z at *
      simp only [Rf.ent1] at ih
      clear hp hla hb hc2
      have hb3 : l.length ≤ 1073741825 := by omega
      clear hb2
      generalize w.cnt = p at *
      obtain ⟨x, w2⟩ := p
      simp only at *
      generalize w2.cnt = p at *
      obtain ⟨y, w3⟩ := p
      simp only at *
      generalize w3.bytes 4096 = p at *
      obtain ⟨d, w4⟩ := p
      obtain ⟨B2, q2, wb2⟩ := w2
      obtain ⟨B3, q3, wb3⟩ := w3
      obtain ⟨B, q, wb⟩ := w
      simp only at *
      subst hno
      rw [e1]
      have e2 : (i : Int) < (n : Int) + ((i : Int) + 1) := by omega
      try simp (maxSteps := 1000000) (disch := first | omega | (simp only [lens, List.length_map]; omega)) only [go_sem, ↓reduceIte, Nat.reduceSub, Nat.reduceAdd, Nat.reduceMul, Nat.reduceLeDiff, Nat.reduceLT, Nat.reduceEqDiff, Nat.reduceBEq, Int.reduceLE, Int.reduceLT, Int.reduceEq, Int.reduceNeg, Int.reduceAdd, Int.reduceSub, Int.reduceMul, Int.reduceToNat] at ih
      simp (maxSteps := 1000000) (disch := first | omega | (simp only [lens, List.length_map]; omega)) only [go_sem, ↓reduceIte, Nat.reduceSub, Nat.reduceAdd, Nat.reduceMul, Nat.reduceLeDiff, Nat.reduceLT, Nat.reduceEqDiff, Nat.reduceBEq, Int.reduceLE, Int.reduceLT, Int.reduceEq, Int.reduceNeg, Int.reduceAdd, Int.reduceSub, Int.reduceMul, Int.reduceToNat, i_ref14_entries_b0, eE_one, eE_s1, eE_app, eE_sz, e2, h1, h1b, h1c, ih]
    · rw [fent_no hno]
      obtain ⟨B, q, wb⟩ := w
      simp only at *
      subst hno
      rw [e1]
      have e2 : (i : Int) < (n : Int) + ((i : Int) + 1) := by omega
      simp (maxSteps := 1000000) (disch := first | omega | (simp only [lens, List.length_map]; omega)) only [go_sem, ↓reduceIte, Nat.reduceSub, Nat.reduceAdd, Nat.reduceMul, Nat.reduceLeDiff, Nat.reduceLT, Nat.reduceEqDiff, Nat.reduceBEq, Int.reduceLE, Int.reduceLT, Int.reduceEq, Int.reduceNeg, Int.reduceAdd, Int.reduceSub, Int.reduceMul, Int.reduceToNat, i_ref14_entries_b0, e2]
def hG0 (l : List Ent) (w : Rf) : Heap := match l with
  | [] => [none, none, some (fO w)]
  | x :: l => [none, some (rowE2 (x :: l)), some (fO w)]
theorem fe_loopA (n : Nat) (w : Rf) (hn : n ≤ 1152921504606846976) (hq : w.ok) : L_ref14_entries_0 (s_ref14_entries_K0 (.ptr 2 0) (i64 n) .nilsl (i64 0) [none, none, some (fO w)]) = some (.exit 0, s_ref14_entries_J0 (vM0 1 (fent n w []).1.length) (hG0 (fent n w []).1 (fent n w []).2)) := by
  cases n with
  | zero =>
    have e0 : ((0 : Nat) : Int) = 0 := rfl
    rw [L_ref14_entries_0_eq, e0]
    simp only [fent, hG0, vM0, List.length_nil]
    simp (maxSteps := 1000000) (disch := first | omega | (simp only [lens, List.length_map]; omega)) only [go_sem, ↓reduceIte, Nat.reduceSub, Nat.reduceAdd, Nat.reduceMul, Nat.reduceLeDiff, Nat.reduceLT, Nat.reduceEqDiff, Nat.reduceBEq, Int.reduceLE, Int.reduceLT, Int.reduceEq, Int.reduceNeg, Int.reduceAdd, Int.reduceSub, Int.reduceMul, Int.reduceToNat, i_ref14_entries_b0]
  | succ n =>
    rw [L_ref14_entries_0_eq]
    have e1 : ((n + 1 : Nat) : Int) = (n : Int) + 1 := by omega
    have e2 : (0 : Int) < (n : Int) + 1 := by omega
    cases hno : w.bad
    · rw [fent_go hno]
      have h1 := fcount_ev w hq
      have hc := w.cnt_ok hq
      have h1b := fcount_ev w.cnt.2 hc.1
      have hc2 := w.cnt.2.cnt_ok hc.1
      have h1c := ref02_Bytes_r_ev w.cnt.2.cnt.2 4096 (by omega) hc2.1
      have hok := fent1_ok w hq
      have ih := fe_loopC n 1 w.ent1.2 [w.ent1.1] (by omega) (by simp) (.inl (by simp only [List.length_singleton, Rf.left]; have := hok.1; omega)) hok
      simp only [List.length_singleton, List.nil_append] at ih ⊢
      rw [show ((1 : Nat) : Int) = 1 from rfl] at ih
      have hk : ∀ (n : Nat) (q : Rf) (l : List Ent), l ≠ [] → (fent n q l).1 ≠ [] := fun n => by
        induction n with
        | zero => intro q l h; exact h
        | succ n ih =>
          intro q l h
          cases hno : q.bad
          · rw [fent_go hno]; exact ih _ _ (by simp)
          · rw [fent_no hno]; exact h
      have hz := hk n w.ent1.2 [w.ent1.1] (by simp)
      generalize fent n w.ent1.2 [w.ent1.1] = z at *
      obtain ⟨l, qz⟩ := z
      simp only [Rf.ent1] at ih
      clear hc2 hok
      generalize w.cnt = p at *
      obtain ⟨x, w2⟩ := p
      simp only at *
      generalize w2.cnt = p at *
      obtain ⟨y, w3⟩ := p
      simp only at *
      generalize w3.bytes 4096 = p at *
      obtain ⟨d, w4⟩ := p
      obtain ⟨B2, q2, wb2⟩ := w2
      obtain ⟨B3, q3, wb3⟩ := w3
      obtain ⟨B, q, wb⟩ := w
      simp only at *
      subst hno
      obtain ⟨y, l, rfl⟩ : ∃ y m, l = y :: m := by cases l with | nil => exact absurd rfl hz | cons y m => exact ⟨y, m, rfl⟩
      simp only [hG0, vM0]
      generalize y :: l = l2 at *
      have hl2 : ¬ l2.length = 0 := fun h => hz (List.length_eq_zero_iff.1 h)
      rw [if_neg hl2, e1]
      try simp (maxSteps := 1000000) (disch := first | omega | (simp only [lens, List.length_map]; omega)) only [go_sem, ↓reduceIte, Nat.reduceSub, Nat.reduceAdd, Nat.reduceMul, Nat.reduceLeDiff, Nat.reduceLT, Nat.reduceEqDiff, Nat.reduceBEq, Int.reduceLE, Int.reduceLT, Int.reduceEq, Int.reduceNeg, Int.reduceAdd, Int.reduceSub, Int.reduceMul, Int.reduceToNat] at ih
      simp (maxSteps := 1000000) (disch := first | omega | (simp only [lens, List.length_map]; omega)) only [go_sem, ↓reduceIte, Nat.reduceSub, Nat.reduceAdd, Nat.reduceMul, Nat.reduceLeDiff, Nat.reduceLT, Nat.reduceEqDiff, Nat.reduceBEq, Int.reduceLE, Int.reduceLT, Int.reduceEq, Int.reduceNeg, Int.reduceAdd, Int.reduceSub, Int.reduceMul, Int.reduceToNat, i_ref14_entries_b0, eE_one, eE_s1, eE_app, eE_sz, eEe2, e2, h1, h1b, h1c, ih]
    · rw [fent_no hno]
      obtain ⟨B, q, wb⟩ := w
      simp only at *
      subst hno
      simp only [hG0, vM0, List.length_nil]
      rw [e1]
      simp (maxSteps := 1000000) (disch := first | omega | (simp only [lens, List.length_map]; omega)) only [go_sem, ↓reduceIte, Nat.reduceSub, Nat.reduceAdd, Nat.reduceMul, Nat.reduceLeDiff, Nat.reduceLT, Nat.reduceEqDiff, Nat.reduceBEq, Int.reduceLE, Int.reduceLT, Int.reduceEq, Int.reduceNeg, Int.reduceAdd, Int.reduceSub, Int.reduceMul, Int.reduceToNat, i_ref14_entries_b0, e2]
theorem fents_ev (w : Rf) (hq : w.ok) : Ev tab G0 n_ref14_entries [.ptr 0 0] [fO w] = some ([.sl true (eE w.ents.1)], [fO w.ents.2]) := by
  have h1 := fcount_ev w hq
  have hc := w.cnt_ok hq
  have h2 := fe_loopA w.cnt.1.toNat w.cnt.2 (by omega) hc.1
  rw [Int.toNat_of_nonneg hc.2.1] at h2
  unfold Rf.ents
  generalize fent w.cnt.1.toNat w.cnt.2 [] = z at *
  generalize w.cnt = p at *
  obtain ⟨x, q2⟩ := p
  obtain ⟨l, q3⟩ := z
  simp only at *
  refine Ev_run t_ref14_entries rfl rfl ?_
  cases l with
  | nil =>
    simp only [hG0, vM0, List.length_nil] at h2
    try simp (maxSteps := 1000000) (disch := first | omega | (simp only [lens, List.length_map]; omega)) only [go_sem, ↓reduceIte, Nat.reduceSub, Nat.reduceAdd, Nat.reduceMul, Nat.reduceLeDiff, Nat.reduceLT, Nat.reduceEqDiff, Nat.reduceBEq, Int.reduceLE, Int.reduceLT, Int.reduceEq, Int.reduceNeg, Int.reduceAdd, Int.reduceSub, Int.reduceMul, Int.reduceToNat] at h2
    simp (maxSteps := 1000000) (disch := first | omega | (simp only [lens, List.length_map]; omega)) only [go_sem, ↓reduceIte, Nat.reduceSub, Nat.reduceAdd, Nat.reduceMul, Nat.reduceLeDiff, Nat.reduceLT, Nat.reduceEqDiff, Nat.reduceBEq, Int.reduceLE, Int.reduceLT, Int.reduceEq, Int.reduceNeg, Int.reduceAdd, Int.reduceSub, Int.reduceMul, Int.reduceToNat, i_ref14_entries, eE_nil, h1, h2]
  | cons y l =>
    simp only [hG0, vM0] at h2
    have hl2 : ¬ (y :: l).length = 0 := by simp
    rw [if_neg hl2] at h2
    generalize y :: l = l2 at *
    try simp (maxSteps := 1000000) (disch := first | omega | (simp only [lens, List.length_map]; omega)) only [go_sem, ↓reduceIte, Nat.reduceSub, Nat.reduceAdd, Nat.reduceMul, Nat.reduceLeDiff, Nat.reduceLT, Nat.reduceEqDiff, Nat.reduceBEq, Int.reduceLE, Int.reduceLT, Int.reduceEq, Int.reduceNeg, Int.reduceAdd, Int.reduceSub, Int.reduceMul, Int.reduceToNat] at h2
    simp (maxSteps := 1000000) (disch := first | omega | (simp only [lens, List.length_map]; omega)) only [go_sem, ↓reduceIte, Nat.reduceSub, Nat.reduceAdd, Nat.reduceMul, Nat.reduceLeDiff, Nat.reduceLT, Nat.reduceEqDiff, Nat.reduceBEq, Int.reduceLE, Int.reduceLT, Int.reduceEq, Int.reduceNeg, Int.reduceAdd, Int.reduceSub, Int.reduceMul, Int.reduceToNat, i_ref14_entries, h1, h2]

end Go.Proofs.Ytkfaahjcncpmhaa
