/-
  The program's reader of counts.
-/
import Derived.Test.YtkfaahjcncpmhaaLCodeSz
import Derived.Test.YtkfaahjcncpmhaaLWr3
set_option linter.unusedSimpArgs false
set_option linter.unusedVariables false
set_option maxRecDepth 200000
set_option maxHeartbeats 4000000
namespace Go.Proofs.Ytkfaahjcncpmhaa
open Go.Ev

structure Rq where
  r : Rd
  bad : Bool
abbrev oQ (k : Nat) (bad : Bool) : Ev.Obj := .var [.ptr k 0, bo bad]
abbrev inQ (q : Rq) : List Ev.Obj := [oQ 1 q.bad, rO q.r]
def Rq.no (q : Rq) : Bool := q.bad || q.r.bad
def Rq.cnt (q : Rq) : Int × Rq := if 1152921504606846976 < q.r.num.1 then (0, ⟨q.r.num.2, true⟩) else (q.r.num.1, ⟨q.r.num.2, q.bad⟩)
theorem Rq.cnt_le (q : Rq) : q.cnt.2.r.b.length ≤ q.r.b.length ∧ 0 ≤ q.cnt.1 ∧ q.cnt.1 ≤ 1152921504606846976 := by
  have h := q.r.num_le
  unfold Rq.cnt
  split
  · exact ⟨h.1, by simp only; omega⟩
  · exact ⟨h.1, by simp only; omega⟩
theorem qcount_ev (q : Rq) (h : q.r.b.length ≤ 1073741824) : Ev tab G0 n_entry_reader_count [.ptr 0 0] (inQ q) = some ([i64 q.cnt.1], inQ q.cnt.2) := by
  have h1 := coder_ReaderNumber_ev q.r h
  have h2 := q.r.num_le
  obtain ⟨r, bad⟩ := q
  unfold Rq.cnt
  simp only at *
  generalize r.num = p at *
  obtain ⟨n, r1⟩ := p
  simp only at *
  refine Ev_run t_entry_reader_count rfl rfl ?_
  by_cases hn : 1152921504606846976 < n
  · rw [if_pos hn]
    simp (maxSteps := 1000000) (disch := first | omega | (simp only [lens, List.length_map]; omega)) only [go_sem, ↓reduceIte, Nat.reduceSub, Nat.reduceAdd, Nat.reduceMul, Nat.reduceLeDiff, Nat.reduceLT, Nat.reduceEqDiff, Nat.reduceBEq, Int.reduceLE, Int.reduceLT, Int.reduceEq, Int.reduceNeg, Int.reduceAdd, Int.reduceSub, Int.reduceMul, Int.reduceToNat, i_entry_reader_count, h1, hn]
  · rw [if_neg hn]
    simp (maxSteps := 1000000) (disch := first | omega | (simp only [lens, List.length_map]; omega)) only [go_sem, ↓reduceIte, Nat.reduceSub, Nat.reduceAdd, Nat.reduceMul, Nat.reduceLeDiff, Nat.reduceLT, Nat.reduceEqDiff, Nat.reduceBEq, Int.reduceLE, Int.reduceLT, Int.reduceEq, Int.reduceNeg, Int.reduceAdd, Int.reduceSub, Int.reduceMul, Int.reduceToNat, i_entry_reader_count, h1, hn]
theorem qfine_ev (q : Rq) (h : q.r.b.length ≤ 1073741824) : Ev tab G0 n_entry_reader_fine [.ptr 0 0] (inQ q) = some ([bo (!q.no)], inQ q) := by
  have h1 := coder_End_ev q.r h
  have h2 := errV_cases q.r
  obtain ⟨⟨b, rb⟩, bad⟩ := q
  unfold Rq.no
  simp only at *
  refine Ev_run t_entry_reader_fine rfl rfl ?_
  cases bad
  · cases rb
    · rcases h2.2 rfl with h2 | h2
      · rw [h2] at h1
        simp (maxSteps := 1000000) (disch := first | omega | (simp only [lens, List.length_map]; omega)) only [go_sem, ↓reduceIte, Nat.reduceSub, Nat.reduceAdd, Nat.reduceMul, Nat.reduceLeDiff, Nat.reduceLT, Nat.reduceEqDiff, Nat.reduceBEq, Int.reduceLE, Int.reduceLT, Int.reduceEq, Int.reduceNeg, Int.reduceAdd, Int.reduceSub, Int.reduceMul, Int.reduceToNat, i_entry_reader_fine, h1]
      · rw [h2] at h1
        simp (maxSteps := 1000000) (disch := first | omega | (simp only [lens, List.length_map]; omega)) only [go_sem, ↓reduceIte, Nat.reduceSub, Nat.reduceAdd, Nat.reduceMul, Nat.reduceLeDiff, Nat.reduceLT, Nat.reduceEqDiff, Nat.reduceBEq, Int.reduceLE, Int.reduceLT, Int.reduceEq, Int.reduceNeg, Int.reduceAdd, Int.reduceSub, Int.reduceMul, Int.reduceToNat, i_entry_reader_fine, h1]
    · rw [h2.1 rfl] at h1
      simp (maxSteps := 1000000) (disch := first | omega | (simp only [lens, List.length_map]; omega)) only [go_sem, ↓reduceIte, Nat.reduceSub, Nat.reduceAdd, Nat.reduceMul, Nat.reduceLeDiff, Nat.reduceLT, Nat.reduceEqDiff, Nat.reduceBEq, Int.reduceLE, Int.reduceLT, Int.reduceEq, Int.reduceNeg, Int.reduceAdd, Int.reduceSub, Int.reduceMul, Int.reduceToNat, i_entry_reader_fine, h1]
  · simp (maxSteps := 1000000) (disch := first | omega | (simp only [lens, List.length_map]; omega)) only [go_sem, ↓reduceIte, Nat.reduceSub, Nat.reduceAdd, Nat.reduceMul, Nat.reduceLeDiff, Nat.reduceLT, Nat.reduceEqDiff, Nat.reduceBEq, Int.reduceLE, Int.reduceLT, Int.reduceEq, Int.reduceNeg, Int.reduceAdd, Int.reduceSub, Int.reduceMul, Int.reduceToNat, i_entry_reader_fine]
theorem qend_ev (q : Rq) (h : q.r.b.length ≤ 1073741824) : Ev tab G0 n_entry_reader_end [.ptr 0 0] (inQ q) = some ([errV (if q.no = true then 3 else q.r.fin)], inQ q) := by
  have h0 := qfine_ev q h
  have h1 := coder_End_ev q.r h
  have h2 := errV_cases q.r
  refine Ev_run t_entry_reader_end rfl rfl ?_
  have hn : q.no = true ∨ q.no = false := by cases q.no <;> simp
  rcases hn with hn | hn
  · rw [hn] at h0 ⊢
    rw [if_pos rfl, errV, if_neg (by decide)]
    simp (maxSteps := 1000000) (disch := first | omega | (simp only [lens, List.length_map]; omega)) only [go_sem, ↓reduceIte, Nat.reduceSub, Nat.reduceAdd, Nat.reduceMul, Nat.reduceLeDiff, Nat.reduceLT, Nat.reduceEqDiff, Nat.reduceBEq, Int.reduceLE, Int.reduceLT, Int.reduceEq, Int.reduceNeg, Int.reduceAdd, Int.reduceSub, Int.reduceMul, Int.reduceToNat, i_entry_reader_end, h0]
  · rw [hn] at h0 ⊢
    rw [if_neg (by decide)]
    have hb : q.r.bad = false := by
      unfold Rq.no at hn
      rw [Bool.or_eq_false_iff] at hn
      exact hn.2
    rcases h2.2 hb with h2 | h2
    · rw [h2] at h1 ⊢
      simp (maxSteps := 1000000) (disch := first | omega | (simp only [lens, List.length_map]; omega)) only [go_sem, ↓reduceIte, Nat.reduceSub, Nat.reduceAdd, Nat.reduceMul, Nat.reduceLeDiff, Nat.reduceLT, Nat.reduceEqDiff, Nat.reduceBEq, Int.reduceLE, Int.reduceLT, Int.reduceEq, Int.reduceNeg, Int.reduceAdd, Int.reduceSub, Int.reduceMul, Int.reduceToNat, i_entry_reader_end, h0, h1]
    · rw [h2] at h1 ⊢
      simp (maxSteps := 1000000) (disch := first | omega | (simp only [lens, List.length_map]; omega)) only [go_sem, ↓reduceIte, Nat.reduceSub, Nat.reduceAdd, Nat.reduceMul, Nat.reduceLeDiff, Nat.reduceLT, Nat.reduceEqDiff, Nat.reduceBEq, Int.reduceLE, Int.reduceLT, Int.reduceEq, Int.reduceNeg, Int.reduceAdd, Int.reduceSub, Int.reduceMul, Int.reduceToNat, i_entry_reader_end, h0, h1]
theorem num_pr (r : Rd) (h : r.bad = false) : r.num.2.bad = true ∨ r.num.2.b.length + 1 ≤ r.b.length := by
  cases hb : r.num.2.bad
  · right
    have h1 := byte_sz (r := r)
    have h2 := r.byte_le
    revert hb
    simp only [Rd.num]
    split
    · intro hb; exact (h1 hb).1
    · split
      · intro hb; cases hb
      · intro hb
        have h3 := take_sz hb
        have h4 := (h1 h3.2).1
        have h5 := h3.1
        rename_i h6 h7
        have h8 : 1 ≤ (r.byte.2.take (r.byte.1.toNat - 247)).1.length := by
          rw [not_or] at h7
          omega
        simp only
        omega
  · exact .inl rfl
theorem Rq.cnt_pr (q : Rq) (h : q.no = false) : q.cnt.2.no = true ∨ q.cnt.2.r.b.length + 1 ≤ q.r.b.length := by
  unfold Rq.no at h
  rw [Bool.or_eq_false_iff] at h
  unfold Rq.cnt Rq.no
  split
  · exact .inl rfl
  · rcases num_pr q.r h.2 with h | h
    · exact .inl (by simp [h])
    · exact .inr h
/-- Counts, so many of them. -/
def qmem : Nat → Rq → List Int → List Int × Rq
  | 0, q, l => (l, q)
  | n + 1, q, l => if q.no = true then (l, q) else qmem n q.cnt.2 (l ++ [q.cnt.1])
def Rq.mems (q : Rq) : List Int × Rq := qmem q.cnt.1.toNat q.cnt.2 []
def Rq.ent1 (q : Rq) : Ent × Rq := ((q.cnt.1, q.cnt.2.cnt.1, (q.cnt.2.cnt.2.r.bytes 4096).1), ⟨(q.cnt.2.cnt.2.r.bytes 4096).2, q.cnt.2.cnt.2.bad⟩)
def qent : Nat → Rq → List Ent → List Ent × Rq
  | 0, q, l => (l, q)
  | n + 1, q, l => if q.no = true then (l, q) else qent n q.ent1.2 (l ++ [q.ent1.1])
def Rq.ents (q : Rq) : List Ent × Rq := qent q.cnt.1.toNat q.cnt.2 []
theorem qmem_no {n : Nat} {q : Rq} {l : List Int} (h : q.no = true) : qmem n q l = (l, q) := by
  cases n
  · rfl
  · unfold qmem; rw [if_pos h]
theorem qmem_go {n : Nat} {q : Rq} {l : List Int} (h : q.no = false) : qmem (n + 1) q l = qmem n q.cnt.2 (l ++ [q.cnt.1]) := by
  rw [qmem, if_neg (by simp [h])]
theorem qent_no {n : Nat} {q : Rq} {l : List Ent} (h : q.no = true) : qent n q l = (l, q) := by
  cases n
  · rfl
  · unfold qent; rw [if_pos h]
theorem qent_go {n : Nat} {q : Rq} {l : List Ent} (h : q.no = false) : qent (n + 1) q l = qent n q.ent1.2 (l ++ [q.ent1.1]) := by
  rw [qent, if_neg (by simp [h])]
theorem qmem_le : ∀ (n : Nat) (q : Rq) (l : List Int), (qmem n q l).2.r.b.length ≤ q.r.b.length
  | 0, q, l => Nat.le_refl _
  | n + 1, q, l => by
    cases h : q.no
    · rw [qmem_go h]
      exact Nat.le_trans (qmem_le n _ _) q.cnt_le.1
    · rw [qmem_no h]; exact Nat.le_refl _
theorem qmem_cnt : ∀ (n : Nat) (q : Rq) (l : List Int), (qmem n q l).1.length ≤ l.length + q.r.b.length + 1 ∧ (q.no = true → (qmem n q l).1.length = l.length)
  | 0, q, l => by simp only [qmem]; exact ⟨by omega, fun _ => trivial⟩
  | n + 1, q, l => by
    cases h : q.no
    · rw [qmem_go h]
      have ih := qmem_cnt n q.cnt.2 (l ++ [q.cnt.1])
      rw [List.length_append, List.length_singleton] at ih
      refine ⟨?_, fun h => by cases h⟩
      rcases q.cnt_pr h with h2 | h2
      · have := ih.2 h2; omega
      · have := ih.1; omega
    · rw [qmem_no h]; exact ⟨by simp only; omega, fun _ => rfl⟩
theorem Rq.ent1_le (q : Rq) : q.ent1.2.r.b.length ≤ q.r.b.length := by
  have h1 := q.cnt_le.1
  have h2 := q.cnt.2.cnt_le.1
  have h3 := q.cnt.2.cnt.2.r.bytes_le 4096
  simp only [Rq.ent1]
  omega
theorem qent_le : ∀ (n : Nat) (q : Rq) (l : List Ent), (qent n q l).2.r.b.length ≤ q.r.b.length
  | 0, q, l => Nat.le_refl _
  | n + 1, q, l => by
    cases h : q.no
    · rw [qent_go h]
      exact Nat.le_trans (qent_le n _ _) q.ent1_le
    · rw [qent_no h]; exact Nat.le_refl _
theorem num_badT {r : Rd} (h : r.bad = true) : r.num.2.bad = true := by
  cases hb : r.num.2.bad
  · rw [num_nb hb] at h; cases h
  · rfl
theorem bytes_badT {r : Rd} (m : Int) (h : r.bad = true) : (r.bytes m).2.bad = true := by
  simp only [Rd.bytes]
  rw [if_pos (.inl (num_badT h))]
theorem cnt_noT {q : Rq} (h : q.no = true) : q.cnt.2.no = true := by
  unfold Rq.no at h ⊢
  rw [Bool.or_eq_true] at h ⊢
  unfold Rq.cnt
  split
  · exact .inl rfl
  · rcases h with h | h
    · exact .inl h
    · exact .inr (num_badT h)
theorem ent1_noT {q : Rq} (h : q.cnt.2.no = true) : q.ent1.2.no = true := by
  have h2 := cnt_noT h
  unfold Rq.no at h2
  rw [Bool.or_eq_true] at h2
  unfold Rq.no Rq.ent1
  rw [Bool.or_eq_true]
  rcases h2 with h | h
  · exact .inl h
  · exact .inr (bytes_badT _ h)
theorem bytes_take (r : Rd) (m : Int) : (r.bytes m).1.length + (r.bytes m).2.b.length ≤ r.b.length := by
  have h := r.num_le
  simp only [Rd.bytes]
  split
  · simp only [List.length_nil]; omega
  · have h2 : ∀ (r : Rd) (n : Int), (r.take n).1.length + (r.take n).2.b.length ≤ r.b.length := fun r n => by
      unfold Rd.take
      split
      · simp
      · split
        · simp
        · simp only [List.length_take, List.length_drop]; omega
    have := h2 r.num.2 r.num.1
    omega
theorem Rq.ent1_pr (q : Rq) (h : q.no = false) : q.ent1.1.2.2.length + q.ent1.2.r.b.length ≤ q.r.b.length ∧ (q.ent1.2.no = true ∨ q.ent1.1.2.2.length + q.ent1.2.r.b.length + 1 ≤ q.r.b.length) := by
  have h1 := q.cnt_le.1
  have h2 := q.cnt.2.cnt_le.1
  have h3 := bytes_take q.cnt.2.cnt.2.r 4096
  refine ⟨by simp only [Rq.ent1]; omega, ?_⟩
  rcases q.cnt_pr h with h4 | h4
  · exact .inl (ent1_noT h4)
  · right; simp only [Rq.ent1]; omega
theorem sumE_app : ∀ a b : List Ent, sumE (a ++ b) = sumE a + sumE b
  | [], b => by simp [sumE]
  | x :: a, b => by simp only [List.cons_append, sumE, sumE_app a b]; omega
theorem qent_cnt : ∀ (n : Nat) (q : Rq) (l : List Ent), sumE (qent n q l).1 ≤ sumE l + 41 * q.r.b.length + 40 ∧ (q.no = true → sumE (qent n q l).1 = sumE l)
  | 0, q, l => by simp only [qent]; exact ⟨by omega, fun _ => trivial⟩
  | n + 1, q, l => by
    cases h : q.no
    · rw [qent_go h]
      have ih := qent_cnt n q.ent1.2 (l ++ [q.ent1.1])
      rw [sumE_app] at ih
      simp only [sumE] at ih
      have h5 := q.ent1_pr h
      refine ⟨?_, fun h => by cases h⟩
      rcases h5.2 with h2 | h2
      · have := ih.2 h2; omega
      · have := ih.1; omega
    · rw [qent_no h]; exact ⟨by simp only; omega, fun _ => rfl⟩

end Go.Proofs.Ytkfaahjcncpmhaa
