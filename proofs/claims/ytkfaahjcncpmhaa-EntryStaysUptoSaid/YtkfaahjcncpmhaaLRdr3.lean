/-
  The program's loop of entries.
-/
import Derived.Test.YtkfaahjcncpmhaaLRdr2
set_option linter.unusedSimpArgs false
set_option linter.unusedVariables false
set_option maxRecDepth 200000
set_option maxHeartbeats 4000000
namespace Go.Proofs.Ytkfaahjcncpmhaa
open Go.Ev

theorem eEe {x : Ent} : (eE [x]).isEmpty = false := rfl
theorem eE_s1 {a b : Int} {c : List UInt8} : ([[C.sc (.int .i64 0), C.sc (.int .i64 0), C.sl []]] : List (List C)).set 0 [C.sc (.int .i64 a), C.sc (.int .i64 b), C.sl (eB c)] = eE [(a, b, c)] := rfl
theorem qe_loopC : ∀ (n : Nat) (q : Rq) (l : List Ent), n ≤ 1152921504606846976 → l ≠ [] → (l.length + q.r.b.length ≤ 1048577 ∨ (q.no = true ∧ l.length ≤ 1048578)) → q.r.b.length ≤ 1048576 → L_entry_reader_entries_0 (s_entry_reader_entries_K0 (.ptr 1 0) (.row 0 l.length) (i64 n) [some (rowE2 l), some (oQ 2 q.bad), some (rO q.r)]) = some (.exit 0, s_entry_reader_entries_J0 (.row 0 (qent n q l).1.length) [some (rowE2 (qent n q l).1), some (oQ 2 (qent n q l).2.bad), some (rO (qent n q l).2.r)])
  | 0, q, l, hn, hl, hb, hq => by
    have e0 : ((0 : Nat) : Int) = 0 := rfl
    rw [L_entry_reader_entries_0_eq, e0]
    simp only [qent]
    simp (maxSteps := 1000000) (disch := first | omega | (simp only [lens, List.length_map]; omega)) only [go_sem, ↓reduceIte, Nat.reduceSub, Nat.reduceAdd, Nat.reduceMul, Nat.reduceLeDiff, Nat.reduceLT, Nat.reduceEqDiff, Nat.reduceBEq, Int.reduceLE, Int.reduceLT, Int.reduceEq, Int.reduceNeg, Int.reduceAdd, Int.reduceSub, Int.reduceMul, Int.reduceToNat, i_entry_reader_entries_b0]
  | n + 1, q, l, hn, hl, hb, hq => by
    rw [L_entry_reader_entries_0_eq]
    have h0 := qfine_ev q (by omega)
    have e1 : ((n + 1 : Nat) : Int) = (n : Int) + 1 := by omega
    cases hno : q.no
    · rw [qent_go hno]
      rw [hno] at h0
      have h1 := qcount_ev q (by omega)
      have hc1 := q.cnt_le
      have h1b := qcount_ev q.cnt.2 (by omega)
      have hc2 := q.cnt.2.cnt_le
      have h1c := coder_ReaderBytes_ev q.cnt.2.cnt.2.r 4096 (by omega) (by omega)
      have hc := q.ent1_le
      have hp := (q.ent1_pr hno).2
      have hb2 : l.length + q.r.b.length ≤ 1048577 := by rcases hb with h | h; exact h; rw [hno] at h; cases h.1
      have hla : (l ++ [q.ent1.1]).length = l.length + 1 := by simp
      have ih := qe_loopC n q.ent1.2 (l ++ [q.ent1.1]) (by omega) (by simp) (by rcases hp with h | h; exact .inr ⟨h, by omega⟩; exact .inl (by omega)) (by omega)
      simp only [hla] at ih
      generalize qent n q.ent1.2 (l ++ [q.ent1.1]) = z at *
      simp only [Rq.ent1] at ih
      clear hp hc hla hb
      have hb3 : l.length ≤ 1048577 := by omega
      clear hb2
      generalize q.cnt = p at *
      obtain ⟨x, q2⟩ := p
      simp only at *
      generalize q2.cnt = p at *
      obtain ⟨y, q3⟩ := p
      simp only at *
      generalize q3.r.bytes 4096 = p at *
      obtain ⟨d, r4⟩ := p
      simp only at *
      rw [e1]
      try simp (maxSteps := 1000000) (disch := first | omega | (simp only [lens, List.length_map]; omega)) only [go_sem, ↓reduceIte, Nat.reduceSub, Nat.reduceAdd, Nat.reduceMul, Nat.reduceLeDiff, Nat.reduceLT, Nat.reduceEqDiff, Nat.reduceBEq, Int.reduceLE, Int.reduceLT, Int.reduceEq, Int.reduceNeg, Int.reduceAdd, Int.reduceSub, Int.reduceMul, Int.reduceToNat] at ih
      simp (maxSteps := 1000000) (disch := first | omega | (simp only [lens, List.length_map]; omega)) only [go_sem, ↓reduceIte, Nat.reduceSub, Nat.reduceAdd, Nat.reduceMul, Nat.reduceLeDiff, Nat.reduceLT, Nat.reduceEqDiff, Nat.reduceBEq, Int.reduceLE, Int.reduceLT, Int.reduceEq, Int.reduceNeg, Int.reduceAdd, Int.reduceSub, Int.reduceMul, Int.reduceToNat, i_entry_reader_entries_b0, eE_one, eE_s1, eE_app, eEe, eE_sz, e_sub1, h0, h1, h1b, h1c, ih]
    · rw [qent_no hno]
      rw [hno] at h0
      rw [e1]
      simp (maxSteps := 1000000) (disch := first | omega | (simp only [lens, List.length_map]; omega)) only [go_sem, ↓reduceIte, Nat.reduceSub, Nat.reduceAdd, Nat.reduceMul, Nat.reduceLeDiff, Nat.reduceLT, Nat.reduceEqDiff, Nat.reduceBEq, Int.reduceLE, Int.reduceLT, Int.reduceEq, Int.reduceNeg, Int.reduceAdd, Int.reduceSub, Int.reduceMul, Int.reduceToNat, i_entry_reader_entries_b0, h0]
def hE0 (l : List Ent) (q : Rq) : Heap := match l with
  | [] => [none, some (oQ 2 q.bad), some (rO q.r)]
  | x :: l => [some (rowE2 (x :: l)), some (oQ 2 q.bad), some (rO q.r)]
theorem qe_loopA (n : Nat) (q : Rq) (hn : n ≤ 1152921504606846976) (hq : q.r.b.length ≤ 1048576) : L_entry_reader_entries_0 (s_entry_reader_entries_K0 (.ptr 1 0) .nilsl (i64 n) [none, some (oQ 2 q.bad), some (rO q.r)]) = some (.exit 0, s_entry_reader_entries_J0 (vM0 0 (qent n q []).1.length) (hE0 (qent n q []).1 (qent n q []).2)) := by
  cases n with
  | zero =>
    have e0 : ((0 : Nat) : Int) = 0 := rfl
    rw [L_entry_reader_entries_0_eq, e0]
    simp only [qent, hE0, vM0, List.length_nil]
    simp (maxSteps := 1000000) (disch := first | omega | (simp only [lens, List.length_map]; omega)) only [go_sem, ↓reduceIte, Nat.reduceSub, Nat.reduceAdd, Nat.reduceMul, Nat.reduceLeDiff, Nat.reduceLT, Nat.reduceEqDiff, Nat.reduceBEq, Int.reduceLE, Int.reduceLT, Int.reduceEq, Int.reduceNeg, Int.reduceAdd, Int.reduceSub, Int.reduceMul, Int.reduceToNat, i_entry_reader_entries_b0]
  | succ n =>
    rw [L_entry_reader_entries_0_eq]
    have h0 := qfine_ev q (by omega)
    have e1 : ((n + 1 : Nat) : Int) = (n : Int) + 1 := by omega
    cases hno : q.no
    · rw [qent_go hno]
      rw [hno] at h0
      have h1 := qcount_ev q (by omega)
      have hc1 := q.cnt_le
      have h1b := qcount_ev q.cnt.2 (by omega)
      have hc2 := q.cnt.2.cnt_le
      have h1c := coder_ReaderBytes_ev q.cnt.2.cnt.2.r 4096 (by omega) (by omega)
      have hc := q.ent1_le
      have hp := (q.ent1_pr hno).2
      have ih := qe_loopC n q.ent1.2 [q.ent1.1] (by omega) (by simp) (by rcases hp with h | h; exact .inr ⟨h, by simp⟩; exact .inl (by simp only [List.length_singleton]; omega)) (by omega)
      simp only [List.length_singleton, List.nil_append] at ih ⊢
      have hk : ∀ (n : Nat) (q : Rq) (l : List Ent), l ≠ [] → (qent n q l).1 ≠ [] := fun n => by
        induction n with
        | zero => intro q l h; exact h
        | succ n ih =>
          intro q l h
          cases hno : q.no
          · rw [qent_go hno]; exact ih _ _ (by simp)
          · rw [qent_no hno]; exact h
      have hz := hk n q.ent1.2 [q.ent1.1] (by simp)
      generalize qent n q.ent1.2 [q.ent1.1] = z at *
      obtain ⟨l, qz⟩ := z
      simp only [Rq.ent1] at ih
      clear hp hc
      generalize q.cnt = p at *
      obtain ⟨x, q2⟩ := p
      simp only at *
      generalize q2.cnt = p at *
      obtain ⟨y, q3⟩ := p
      simp only at *
      generalize q3.r.bytes 4096 = p at *
      obtain ⟨d, r4⟩ := p
      simp only at *
      obtain ⟨y, l, rfl⟩ : ∃ y m, l = y :: m := by cases l with | nil => exact absurd rfl hz | cons y m => exact ⟨y, m, rfl⟩
      simp only [hE0, vM0]
      generalize y :: l = l2 at *
      have hl2 : ¬ l2.length = 0 := fun h => hz (List.length_eq_zero_iff.1 h)
      rw [if_neg hl2, e1]
      try simp (maxSteps := 1000000) (disch := first | omega | (simp only [lens, List.length_map]; omega)) only [go_sem, ↓reduceIte, Nat.reduceSub, Nat.reduceAdd, Nat.reduceMul, Nat.reduceLeDiff, Nat.reduceLT, Nat.reduceEqDiff, Nat.reduceBEq, Int.reduceLE, Int.reduceLT, Int.reduceEq, Int.reduceNeg, Int.reduceAdd, Int.reduceSub, Int.reduceMul, Int.reduceToNat] at ih
      simp (maxSteps := 1000000) (disch := first | omega | (simp only [lens, List.length_map]; omega)) only [go_sem, ↓reduceIte, Nat.reduceSub, Nat.reduceAdd, Nat.reduceMul, Nat.reduceLeDiff, Nat.reduceLT, Nat.reduceEqDiff, Nat.reduceBEq, Int.reduceLE, Int.reduceLT, Int.reduceEq, Int.reduceNeg, Int.reduceAdd, Int.reduceSub, Int.reduceMul, Int.reduceToNat, i_entry_reader_entries_b0, eE_one, eE_s1, eE_app, eEe, eE_sz, e_sub1, h0, h1, h1b, h1c, ih]
    · rw [qent_no hno]
      rw [hno] at h0
      simp only [hE0, vM0, List.length_nil]
      rw [e1]
      simp (maxSteps := 1000000) (disch := first | omega | (simp only [lens, List.length_map]; omega)) only [go_sem, ↓reduceIte, Nat.reduceSub, Nat.reduceAdd, Nat.reduceMul, Nat.reduceLeDiff, Nat.reduceLT, Nat.reduceEqDiff, Nat.reduceBEq, Int.reduceLE, Int.reduceLT, Int.reduceEq, Int.reduceNeg, Int.reduceAdd, Int.reduceSub, Int.reduceMul, Int.reduceToNat, i_entry_reader_entries_b0, h0]
theorem qents_ev (q : Rq) (hq : q.r.b.length ≤ 1048576) : Ev tab G0 n_entry_reader_entries [.ptr 0 0] (inQ q) = some ([.sl true (eE q.ents.1)], inQ q.ents.2) := by
  have h1 := qcount_ev q (by omega)
  have hc := q.cnt_le
  have h2 := qe_loopA q.cnt.1.toNat q.cnt.2 (by omega) (by omega)
  rw [Int.toNat_of_nonneg hc.2.1] at h2
  unfold Rq.ents
  generalize qent q.cnt.1.toNat q.cnt.2 [] = z at *
  generalize q.cnt = p at *
  obtain ⟨x, q2⟩ := p
  obtain ⟨l, q3⟩ := z
  simp only at *
  refine Ev_run t_entry_reader_entries rfl rfl ?_
  cases l with
  | nil =>
    simp only [hE0, vM0, List.length_nil] at h2
    try simp (maxSteps := 1000000) (disch := first | omega | (simp only [lens, List.length_map]; omega)) only [go_sem, ↓reduceIte, Nat.reduceSub, Nat.reduceAdd, Nat.reduceMul, Nat.reduceLeDiff, Nat.reduceLT, Nat.reduceEqDiff, Nat.reduceBEq, Int.reduceLE, Int.reduceLT, Int.reduceEq, Int.reduceNeg, Int.reduceAdd, Int.reduceSub, Int.reduceMul, Int.reduceToNat] at h2
    simp (maxSteps := 1000000) (disch := first | omega | (simp only [lens, List.length_map]; omega)) only [go_sem, ↓reduceIte, Nat.reduceSub, Nat.reduceAdd, Nat.reduceMul, Nat.reduceLeDiff, Nat.reduceLT, Nat.reduceEqDiff, Nat.reduceBEq, Int.reduceLE, Int.reduceLT, Int.reduceEq, Int.reduceNeg, Int.reduceAdd, Int.reduceSub, Int.reduceMul, Int.reduceToNat, i_entry_reader_entries, eE_nil, h1, h2]
  | cons y l =>
    simp only [hE0, vM0] at h2
    have hl2 : ¬ (y :: l).length = 0 := by simp
    rw [if_neg hl2] at h2
    generalize y :: l = l2 at *
    try simp (maxSteps := 1000000) (disch := first | omega | (simp only [lens, List.length_map]; omega)) only [go_sem, ↓reduceIte, Nat.reduceSub, Nat.reduceAdd, Nat.reduceMul, Nat.reduceLeDiff, Nat.reduceLT, Nat.reduceEqDiff, Nat.reduceBEq, Int.reduceLE, Int.reduceLT, Int.reduceEq, Int.reduceNeg, Int.reduceAdd, Int.reduceSub, Int.reduceMul, Int.reduceToNat] at h2
    simp (maxSteps := 1000000) (disch := first | omega | (simp only [lens, List.length_map]; omega)) only [go_sem, ↓reduceIte, Nat.reduceSub, Nat.reduceAdd, Nat.reduceMul, Nat.reduceLeDiff, Nat.reduceLT, Nat.reduceEqDiff, Nat.reduceBEq, Int.reduceLE, Int.reduceLT, Int.reduceEq, Int.reduceNeg, Int.reduceAdd, Int.reduceSub, Int.reduceMul, Int.reduceToNat, i_entry_reader_entries, h1, h2]

end Go.Proofs.Ytkfaahjcncpmhaa
