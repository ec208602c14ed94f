/-
  The program's loops of counts and entries.
-/
import Derived.Test.YtkfaahjcncpmhaaLRdr1
set_option linter.unusedSimpArgs false
set_option linter.unusedVariables false
set_option maxRecDepth 200000
set_option maxHeartbeats 4000000
namespace Go.Proofs.Ytkfaahjcncpmhaa
open Go.Ev

abbrev rowI2 (l : List Int) : Ev.Obj := .row ty_int 1 true false (eI .i64 l)
abbrev rowE2 (l : List Ent) : Ev.Obj := .row ty_api_Entry 3 true false (eE l)
theorem eIa {k : IntKind} {a b : List Int} : eI k a ++ eI k b = eI k (a ++ b) := by simp [eI]
theorem eIe {x : Int} : (eI .i64 [x]).isEmpty = false := rfl
theorem eI0 : eI .i64 [] = [] := rfl
theorem e_sub1 (n : Int) : n + 1 - 1 = n := by omega
theorem qm_loopC : ∀ (n : Nat) (q : Rq) (l : List Int), n ≤ 1152921504606846976 → l ≠ [] → (l.length + q.r.b.length ≤ 1048577 ∨ (q.no = true ∧ l.length ≤ 1048578)) → q.r.b.length ≤ 1048576 → L_entry_reader_members_0 (s_entry_reader_members_K0 (.ptr 1 0) (.row 0 l.length) (i64 n) [some (rowI2 l), some (oQ 2 q.bad), some (rO q.r)]) = some (.exit 0, s_entry_reader_members_J0 (.row 0 (qmem n q l).1.length) [some (rowI2 (qmem n q l).1), some (oQ 2 (qmem n q l).2.bad), some (rO (qmem n q l).2.r)])
  | 0, q, l, hn, hl, hb, hq => by
    have e0 : ((0 : Nat) : Int) = 0 := rfl
    rw [L_entry_reader_members_0_eq, e0]
    simp only [qmem]
    simp (maxSteps := 1000000) (disch := first | omega | (simp only [lens, List.length_map]; omega)) only [go_sem, ↓reduceIte, Nat.reduceSub, Nat.reduceAdd, Nat.reduceMul, Nat.reduceLeDiff, Nat.reduceLT, Nat.reduceEqDiff, Nat.reduceBEq, Int.reduceLE, Int.reduceLT, Int.reduceEq, Int.reduceNeg, Int.reduceAdd, Int.reduceSub, Int.reduceMul, Int.reduceToNat, i_entry_reader_members_b0]
  | n + 1, q, l, hn, hl, hb, hq => by
    rw [L_entry_reader_members_0_eq]
    have h0 := qfine_ev q (by omega)
    have e1 : ((n + 1 : Nat) : Int) = (n : Int) + 1 := by omega
    cases hno : q.no
    · rw [qmem_go hno]
      rw [hno] at h0
      have h1 := qcount_ev q (by omega)
      have hc := q.cnt_le
      have hp := q.cnt_pr hno
      have hb2 : l.length + q.r.b.length ≤ 1048577 := by rcases hb with h | h; exact h; rw [hno] at h; cases h.1
      have hla : (l ++ [q.cnt.1]).length = l.length + 1 := by simp
      have ih := qm_loopC n q.cnt.2 (l ++ [q.cnt.1]) (by omega) (by simp) (by rcases hp with h | h; exact .inr ⟨h, by omega⟩; exact .inl (by omega)) (by omega)
      simp only [hla] at ih
      generalize qmem n q.cnt.2 (l ++ [q.cnt.1]) = z at *
      generalize q.cnt = p at *
      obtain ⟨x, q2⟩ := p
      simp only at *
      rw [e1]
      try simp (maxSteps := 1000000) (disch := first | omega | (simp only [lens, List.length_map]; omega)) only [go_sem, ↓reduceIte, Nat.reduceSub, Nat.reduceAdd, Nat.reduceMul, Nat.reduceLeDiff, Nat.reduceLT, Nat.reduceEqDiff, Nat.reduceBEq, Int.reduceLE, Int.reduceLT, Int.reduceEq, Int.reduceNeg, Int.reduceAdd, Int.reduceSub, Int.reduceMul, Int.reduceToNat] at ih
      simp (maxSteps := 1000000) (disch := first | omega | (simp only [lens, List.length_map]; omega)) only [go_sem, ↓reduceIte, Nat.reduceSub, Nat.reduceAdd, Nat.reduceMul, Nat.reduceLeDiff, Nat.reduceLT, Nat.reduceEqDiff, Nat.reduceBEq, Int.reduceLE, Int.reduceLT, Int.reduceEq, Int.reduceNeg, Int.reduceAdd, Int.reduceSub, Int.reduceMul, Int.reduceToNat, i_entry_reader_members_b0, eI_1, eI_s1, eIa, eIe, e_sub1, h0, h1, ih]
    · rw [qmem_no hno]
      rw [hno] at h0
      rw [e1]
      simp (maxSteps := 1000000) (disch := first | omega | (simp only [lens, List.length_map]; omega)) only [go_sem, ↓reduceIte, Nat.reduceSub, Nat.reduceAdd, Nat.reduceMul, Nat.reduceLeDiff, Nat.reduceLT, Nat.reduceEqDiff, Nat.reduceBEq, Int.reduceLE, Int.reduceLT, Int.reduceEq, Int.reduceNeg, Int.reduceAdd, Int.reduceSub, Int.reduceMul, Int.reduceToNat, i_entry_reader_members_b0, h0]
def hM0 (l : List Int) (q : Rq) : Heap := match l with
  | [] => [none, some (oQ 2 q.bad), some (rO q.r)]
  | x :: l => [some (rowI2 (x :: l)), some (oQ 2 q.bad), some (rO q.r)]
def vM0 (k : Nat) (n : Nat) : AV := if n = 0 then .nilsl else .row k n
theorem qm_loopA (n : Nat) (q : Rq) (hn : n ≤ 1152921504606846976) (hq : q.r.b.length ≤ 1048576) : L_entry_reader_members_0 (s_entry_reader_members_K0 (.ptr 1 0) .nilsl (i64 n) [none, some (oQ 2 q.bad), some (rO q.r)]) = some (.exit 0, s_entry_reader_members_J0 (vM0 0 (qmem n q []).1.length) (hM0 (qmem n q []).1 (qmem n q []).2)) := by
  cases n with
  | zero =>
    have e0 : ((0 : Nat) : Int) = 0 := rfl
    rw [L_entry_reader_members_0_eq, e0]
    simp only [qmem, hM0, vM0, List.length_nil]
    simp (maxSteps := 1000000) (disch := first | omega | (simp only [lens, List.length_map]; omega)) only [go_sem, ↓reduceIte, Nat.reduceSub, Nat.reduceAdd, Nat.reduceMul, Nat.reduceLeDiff, Nat.reduceLT, Nat.reduceEqDiff, Nat.reduceBEq, Int.reduceLE, Int.reduceLT, Int.reduceEq, Int.reduceNeg, Int.reduceAdd, Int.reduceSub, Int.reduceMul, Int.reduceToNat, i_entry_reader_members_b0]
  | succ n =>
    rw [L_entry_reader_members_0_eq]
    have h0 := qfine_ev q (by omega)
    have e1 : ((n + 1 : Nat) : Int) = (n : Int) + 1 := by omega
    cases hno : q.no
    · rw [qmem_go hno]
      rw [hno] at h0
      have h1 := qcount_ev q (by omega)
      have hc := q.cnt_le
      have ih := qm_loopC n q.cnt.2 [q.cnt.1] (by omega) (by simp) (.inl (by simp only [List.length_singleton]; omega)) (by omega)
      simp only [List.length_singleton, List.nil_append] at ih ⊢
      have hk : ∀ (n : Nat) (q : Rq) (l : List Int), l ≠ [] → (qmem n q l).1 ≠ [] := fun n => by
        induction n with
        | zero => intro q l h; exact h
        | succ n ih =>
          intro q l h
          cases hno : q.no
          · rw [qmem_go hno]; exact ih _ _ (by simp)
          · rw [qmem_no hno]; exact h
      have hz := hk n q.cnt.2 [q.cnt.1] (by simp)
      generalize qmem n q.cnt.2 [q.cnt.1] = z at *
      obtain ⟨l, q3⟩ := z
      generalize q.cnt = p at *
      obtain ⟨x, q2⟩ := p
      simp only at *
      obtain ⟨y, l, rfl⟩ : ∃ y m, l = y :: m := by cases l with | nil => exact absurd rfl hz | cons y m => exact ⟨y, m, rfl⟩
      simp only [hM0, vM0]
      generalize y :: l = l2 at *
      have hl2 : ¬ l2.length = 0 := fun h => hz (List.length_eq_zero_iff.1 h)
      rw [if_neg hl2, e1]
      try simp (maxSteps := 1000000) (disch := first | omega | (simp only [lens, List.length_map]; omega)) only [go_sem, ↓reduceIte, Nat.reduceSub, Nat.reduceAdd, Nat.reduceMul, Nat.reduceLeDiff, Nat.reduceLT, Nat.reduceEqDiff, Nat.reduceBEq, Int.reduceLE, Int.reduceLT, Int.reduceEq, Int.reduceNeg, Int.reduceAdd, Int.reduceSub, Int.reduceMul, Int.reduceToNat] at ih
      simp (maxSteps := 1000000) (disch := first | omega | (simp only [lens, List.length_map]; omega)) only [go_sem, ↓reduceIte, Nat.reduceSub, Nat.reduceAdd, Nat.reduceMul, Nat.reduceLeDiff, Nat.reduceLT, Nat.reduceEqDiff, Nat.reduceBEq, Int.reduceLE, Int.reduceLT, Int.reduceEq, Int.reduceNeg, Int.reduceAdd, Int.reduceSub, Int.reduceMul, Int.reduceToNat, i_entry_reader_members_b0, eI_1, eI_s1, eIa, eIe, e_sub1, h0, h1, ih]
    · rw [qmem_no hno]
      rw [hno] at h0
      simp only [hM0, vM0, List.length_nil]
      rw [e1]
      simp (maxSteps := 1000000) (disch := first | omega | (simp only [lens, List.length_map]; omega)) only [go_sem, ↓reduceIte, Nat.reduceSub, Nat.reduceAdd, Nat.reduceMul, Nat.reduceLeDiff, Nat.reduceLT, Nat.reduceEqDiff, Nat.reduceBEq, Int.reduceLE, Int.reduceLT, Int.reduceEq, Int.reduceNeg, Int.reduceAdd, Int.reduceSub, Int.reduceMul, Int.reduceToNat, i_entry_reader_members_b0, h0]
theorem qmems_ev (q : Rq) (hq : q.r.b.length ≤ 1048576) : Ev tab G0 n_entry_reader_members [.ptr 0 0] (inQ q) = some ([.sl true (eI .i64 q.mems.1)], inQ q.mems.2) := by
  have h1 := qcount_ev q (by omega)
  have hc := q.cnt_le
  have h2 := qm_loopA q.cnt.1.toNat q.cnt.2 (by omega) (by omega)
  rw [Int.toNat_of_nonneg hc.2.1] at h2
  unfold Rq.mems
  generalize qmem q.cnt.1.toNat q.cnt.2 [] = z at *
  generalize q.cnt = p at *
  obtain ⟨x, q2⟩ := p
  obtain ⟨l, q3⟩ := z
  simp only at *
  refine Ev_run t_entry_reader_members rfl rfl ?_
  cases l with
  | nil =>
    simp only [hM0, vM0, List.length_nil] at h2
    try simp (maxSteps := 1000000) (disch := first | omega | (simp only [lens, List.length_map]; omega)) only [go_sem, ↓reduceIte, Nat.reduceSub, Nat.reduceAdd, Nat.reduceMul, Nat.reduceLeDiff, Nat.reduceLT, Nat.reduceEqDiff, Nat.reduceBEq, Int.reduceLE, Int.reduceLT, Int.reduceEq, Int.reduceNeg, Int.reduceAdd, Int.reduceSub, Int.reduceMul, Int.reduceToNat] at h2
    simp (maxSteps := 1000000) (disch := first | omega | (simp only [lens, List.length_map]; omega)) only [go_sem, ↓reduceIte, Nat.reduceSub, Nat.reduceAdd, Nat.reduceMul, Nat.reduceLeDiff, Nat.reduceLT, Nat.reduceEqDiff, Nat.reduceBEq, Int.reduceLE, Int.reduceLT, Int.reduceEq, Int.reduceNeg, Int.reduceAdd, Int.reduceSub, Int.reduceMul, Int.reduceToNat, i_entry_reader_members, eI0, h1, h2]
  | cons y l =>
    simp only [hM0, vM0] at h2
    have hl2 : ¬ (y :: l).length = 0 := by simp
    rw [if_neg hl2] at h2
    generalize y :: l = l2 at *
    try simp (maxSteps := 1000000) (disch := first | omega | (simp only [lens, List.length_map]; omega)) only [go_sem, ↓reduceIte, Nat.reduceSub, Nat.reduceAdd, Nat.reduceMul, Nat.reduceLeDiff, Nat.reduceLT, Nat.reduceEqDiff, Nat.reduceBEq, Int.reduceLE, Int.reduceLT, Int.reduceEq, Int.reduceNeg, Int.reduceAdd, Int.reduceSub, Int.reduceMul, Int.reduceToNat] at h2
    simp (maxSteps := 1000000) (disch := first | omega | (simp only [lens, List.length_map]; omega)) only [go_sem, ↓reduceIte, Nat.reduceSub, Nat.reduceAdd, Nat.reduceMul, Nat.reduceLeDiff, Nat.reduceLT, Nat.reduceEqDiff, Nat.reduceBEq, Int.reduceLE, Int.reduceLT, Int.reduceEq, Int.reduceNeg, Int.reduceAdd, Int.reduceSub, Int.reduceMul, Int.reduceToNat, i_entry_reader_members, h1, h2]

end Go.Proofs.Ytkfaahjcncpmhaa
