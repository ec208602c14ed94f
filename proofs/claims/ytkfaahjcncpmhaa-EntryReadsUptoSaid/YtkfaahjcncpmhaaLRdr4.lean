/-
  The document's reader of counts: its loops.
-/
import Derived.Test.YtkfaahjcncpmhaaLRdr2
set_option linter.unusedSimpArgs false
set_option linter.unusedVariables false
set_option maxRecDepth 200000
set_option maxHeartbeats 4000000
namespace Go.Proofs.Ytkfaahjcncpmhaa
open Go.Ev

def Rf.cnt (w : Rf) : Int × Rf := if 1152921504606846976 < w.num.1 then (0, w.num.2.spoil) else w.num
theorem Rf.cnt_ok (w : Rf) (h : w.ok) : w.cnt.2.ok ∧ 0 ≤ w.cnt.1 ∧ w.cnt.1 ≤ 1152921504606846976 := by
  have h1 := w.num_ok h
  unfold Rf.cnt
  split
  · exact ⟨h1.1, by simp only; omega⟩
  · exact ⟨h1.1, by omega⟩
theorem fcount_ev (w : Rf) (h : w.ok) : Ev tab G0 n_ref14_count [.ptr 0 0] [fO w] = some ([i64 w.cnt.1], [fO w.cnt.2]) := by
  have h1 := ref02_Number_r_ev w h
  have h2 := w.num_ok h
  unfold Rf.cnt
  generalize w.num = p at *
  obtain ⟨n, ⟨B, q, b⟩⟩ := p
  simp only at *
  refine Ev_run t_ref14_count rfl rfl ?_
  by_cases hn : 1152921504606846976 < n
  · rw [if_pos hn]
    simp (maxSteps := 1000000) (disch := first | omega | (simp only [lens, List.length_map]; omega)) only [go_sem, ↓reduceIte, Nat.reduceSub, Nat.reduceAdd, Nat.reduceMul, Nat.reduceLeDiff, Nat.reduceLT, Nat.reduceEqDiff, Nat.reduceBEq, Int.reduceLE, Int.reduceLT, Int.reduceEq, Int.reduceNeg, Int.reduceAdd, Int.reduceSub, Int.reduceMul, Int.reduceToNat, i_ref14_count, h1, hn]
  · rw [if_neg hn]
    simp (maxSteps := 1000000) (disch := first | omega | (simp only [lens, List.length_map]; omega)) only [go_sem, ↓reduceIte, Nat.reduceSub, Nat.reduceAdd, Nat.reduceMul, Nat.reduceLeDiff, Nat.reduceLT, Nat.reduceEqDiff, Nat.reduceBEq, Int.reduceLE, Int.reduceLT, Int.reduceEq, Int.reduceNeg, Int.reduceAdd, Int.reduceSub, Int.reduceMul, Int.reduceToNat, i_ref14_count, h1, hn]
def fmem : Nat → Rf → List Int → List Int × Rf
  | 0, w, l => (l, w)
  | n + 1, w, l => if w.bad = true then (l, w) else fmem n w.cnt.2 (l ++ [w.cnt.1])
def Rf.mems (w : Rf) : List Int × Rf := fmem w.cnt.1.toNat w.cnt.2 []
def Rf.ent1 (w : Rf) : Ent × Rf := ((w.cnt.1, w.cnt.2.cnt.1, (w.cnt.2.cnt.2.bytes 4096).1), (w.cnt.2.cnt.2.bytes 4096).2)
def fent : Nat → Rf → List Ent → List Ent × Rf
  | 0, w, l => (l, w)
  | n + 1, w, l => if w.bad = true then (l, w) else fent n w.ent1.2 (l ++ [w.ent1.1])
def Rf.ents (w : Rf) : List Ent × Rf := fent w.cnt.1.toNat w.cnt.2 []
theorem fmem_no {n : Nat} {w : Rf} {l : List Int} (h : w.bad = true) : fmem n w l = (l, w) := by
  cases n
  · rfl
  · unfold fmem; rw [if_pos h]
theorem fmem_go {n : Nat} {w : Rf} {l : List Int} (h : w.bad = false) : fmem (n + 1) w l = fmem n w.cnt.2 (l ++ [w.cnt.1]) := by
  rw [fmem, if_neg (by simp [h])]
theorem fent_no {n : Nat} {w : Rf} {l : List Ent} (h : w.bad = true) : fent n w l = (l, w) := by
  cases n
  · rfl
  · unfold fent; rw [if_pos h]
theorem fent_go {n : Nat} {w : Rf} {l : List Ent} (h : w.bad = false) : fent (n + 1) w l = fent n w.ent1.2 (l ++ [w.ent1.1]) := by
  rw [fent, if_neg (by simp [h])]
def Rf.left (w : Rf) : Nat := w.B.length - w.p
theorem fbyte_pr (w : Rf) (h : w.bad = false) : w.byte.2.bad = true ∨ w.byte.2.left + 1 ≤ w.left := by
  unfold Rf.byte Rf.left
  rw [if_neg (by simp [h])]
  split
  · exact .inl rfl
  · right; simp only; omega
theorem fnum_pr (w : Rf) (h : w.bad = false) : w.num.2.bad = true ∨ w.num.2.left + 1 ≤ w.left := by
  have h1 := fbyte_pr w h
  simp only [Rf.num]
  split
  · rename_i h2; exact .inl h2
  · rename_i h2
    have h3 : w.byte.2.left + 1 ≤ w.left := h1.resolve_left h2
    split
    · exact .inr h3
    · split
      · exact .inl rfl
      · split
        · exact .inl rfl
        · right
          simp only [Rf.left] at *
          omega
theorem fcnt_pr (w : Rf) (h : w.bad = false) : w.cnt.2.bad = true ∨ w.cnt.2.left + 1 ≤ w.left := by
  unfold Rf.cnt
  split
  · exact .inl rfl
  · exact fnum_pr w h
theorem fm_loopC : ∀ (n i : Nat) (w : Rf) (l : List Int), n + i ≤ 1152921504606846976 → l ≠ [] → (l.length + w.left ≤ 1073741825 ∨ (w.bad = true ∧ l.length ≤ 1073741826)) → w.ok → L_ref14_members_0 (s_ref14_members_K0 (.ptr 1 0) (i64 ((n : Int) + i)) (.row 0 l.length) (i64 i) [some (rowI2 l), some (fO w)]) = some (.exit 0, s_ref14_members_J0 (.row 0 (fmem n w l).1.length) [some (rowI2 (fmem n w l).1), some (fO (fmem n w l).2)])
  | 0, i, w, l, hn, hl, hb, hq => by
    have e0 : ((0 : Nat) : Int) + (i : Int) = i := by omega
    rw [L_ref14_members_0_eq, e0]
    simp only [fmem]
    simp (maxSteps := 1000000) (disch := first | omega | (simp only [lens, List.length_map]; omega)) only [go_sem, ↓reduceIte, Nat.reduceSub, Nat.reduceAdd, Nat.reduceMul, Nat.reduceLeDiff, Nat.reduceLT, Nat.reduceEqDiff, Nat.reduceBEq, Int.reduceLE, Int.reduceLT, Int.reduceEq, Int.reduceNeg, Int.reduceAdd, Int.reduceSub, Int.reduceMul, Int.reduceToNat, i_ref14_members_b0]
  | n + 1, i, w, l, hn, hl, hb, hq => by
    rw [L_ref14_members_0_eq]
    have e1 : ((n + 1 : Nat) : Int) + (i : Int) = (n : Int) + ((i : Int) + 1) := by omega
    cases hno : w.bad
    · rw [fmem_go hno]
      have h1 := fcount_ev w hq
      have hc := w.cnt_ok hq
      have hp := fcnt_pr w hno
      have hb2 : l.length + w.left ≤ 1073741825 := by rcases hb with h | h; exact h; rw [hno] at h; cases h.1
      have hla : (l ++ [w.cnt.1]).length = l.length + 1 := by simp
      have ih := fm_loopC n (i + 1) w.cnt.2 (l ++ [w.cnt.1]) (by omega) (by simp) (by rcases hp with h | h; exact .inr ⟨h, by omega⟩; exact .inl (by omega)) hc.1
      simp only [hla] at ih
      rw [show ((i + 1 : Nat) : Int) = (i : Int) + 1 from by omega] at ih
      generalize fmem n w.cnt.2 (l ++ [w.cnt.1]) = z at *
      generalize w.cnt = p at *
      obtain ⟨B, q, wb⟩ := w
      obtain ⟨x, w2⟩ := p
      simp only at *
      subst hno
      rw [e1]
      have e2 : (i : Int) < (n : Int) + ((i : Int) + 1) := by omega
      try simp (maxSteps := 1000000) (disch := first | omega | (simp only [lens, List.length_map]; omega)) only [go_sem, ↓reduceIte, Nat.reduceSub, Nat.reduceAdd, Nat.reduceMul, Nat.reduceLeDiff, Nat.reduceLT, Nat.reduceEqDiff, Nat.reduceBEq, Int.reduceLE, Int.reduceLT, Int.reduceEq, Int.reduceNeg, Int.reduceAdd, Int.reduceSub, Int.reduceMul, Int.reduceToNat] at ih
      simp (maxSteps := 1000000) (disch := first | omega | (simp only [lens, List.length_map]; omega)) only [go_sem, ↓reduceIte, Nat.reduceSub, Nat.reduceAdd, Nat.reduceMul, Nat.reduceLeDiff, Nat.reduceLT, Nat.reduceEqDiff, Nat.reduceBEq, Int.reduceLE, Int.reduceLT, Int.reduceEq, Int.reduceNeg, Int.reduceAdd, Int.reduceSub, Int.reduceMul, Int.reduceToNat, i_ref14_members_b0, eI_1, eI_s1, eIa, e2, h1, ih]
    · rw [fmem_no hno]
      obtain ⟨B, q, wb⟩ := w
      simp only at *
      subst hno
      rw [e1]
      have e2 : (i : Int) < (n : Int) + ((i : Int) + 1) := by omega
      simp (maxSteps := 1000000) (disch := first | omega | (simp only [lens, List.length_map]; omega)) only [go_sem, ↓reduceIte, Nat.reduceSub, Nat.reduceAdd, Nat.reduceMul, Nat.reduceLeDiff, Nat.reduceLT, Nat.reduceEqDiff, Nat.reduceBEq, Int.reduceLE, Int.reduceLT, Int.reduceEq, Int.reduceNeg, Int.reduceAdd, Int.reduceSub, Int.reduceMul, Int.reduceToNat, i_ref14_members_b0, e2]
def hF0 (l : List Int) (w : Rf) : Heap := match l with
  | [] => [none, some (fO w)]
  | x :: l => [some (rowI2 (x :: l)), some (fO w)]
theorem fm_loopA (n : Nat) (w : Rf) (hn : n ≤ 1152921504606846976) (hq : w.ok) : L_ref14_members_0 (s_ref14_members_K0 (.ptr 1 0) (i64 n) .nilsl (i64 0) [none, some (fO w)]) = some (.exit 0, s_ref14_members_J0 (vM0 0 (fmem n w []).1.length) (hF0 (fmem n w []).1 (fmem n w []).2)) := by
  cases n with
  | zero =>
    have e0 : ((0 : Nat) : Int) = 0 := rfl
    rw [L_ref14_members_0_eq, e0]
    simp only [fmem, hF0, vM0, List.length_nil]
    simp (maxSteps := 1000000) (disch := first | omega | (simp only [lens, List.length_map]; omega)) only [go_sem, ↓reduceIte, Nat.reduceSub, Nat.reduceAdd, Nat.reduceMul, Nat.reduceLeDiff, Nat.reduceLT, Nat.reduceEqDiff, Nat.reduceBEq, Int.reduceLE, Int.reduceLT, Int.reduceEq, Int.reduceNeg, Int.reduceAdd, Int.reduceSub, Int.reduceMul, Int.reduceToNat, i_ref14_members_b0]
  | succ n =>
    rw [L_ref14_members_0_eq]
    have e1 : ((n + 1 : Nat) : Int) = (n : Int) + 1 := by omega
    have e2 : (0 : Int) < (n : Int) + 1 := by omega
    cases hno : w.bad
    · rw [fmem_go hno]
      have h1 := fcount_ev w hq
      have hc := w.cnt_ok hq
      have ih := fm_loopC n 1 w.cnt.2 [w.cnt.1] (by omega) (by simp) (.inl (by simp only [List.length_singleton, Rf.left]; have := hc.1.1; omega)) hc.1
      simp only [List.length_singleton, List.nil_append] at ih ⊢
      rw [show ((1 : Nat) : Int) = 1 from rfl] at ih
      have hk : ∀ (n : Nat) (q : Rf) (l : List Int), l ≠ [] → (fmem n q l).1 ≠ [] := fun n => by
        induction n with
        | zero => intro q l h; exact h
        | succ n ih =>
          intro q l h
          cases hno : q.bad
          · rw [fmem_go hno]; exact ih _ _ (by simp)
          · rw [fmem_no hno]; exact h
      have hz := hk n w.cnt.2 [w.cnt.1] (by simp)
      generalize fmem n w.cnt.2 [w.cnt.1] = z at *
      obtain ⟨l, q3⟩ := z
      generalize w.cnt = p at *
      obtain ⟨B, q, wb⟩ := w
      obtain ⟨x, q2⟩ := p
      simp only at *
      subst hno
      obtain ⟨y, l, rfl⟩ : ∃ y m, l = y :: m := by cases l with | nil => exact absurd rfl hz | cons y m => exact ⟨y, m, rfl⟩
      simp only [hF0, vM0]
      generalize y :: l = l2 at *
      have hl2 : ¬ l2.length = 0 := fun h => hz (List.length_eq_zero_iff.1 h)
      rw [if_neg hl2, e1]
      try simp (maxSteps := 1000000) (disch := first | omega | (simp only [lens, List.length_map]; omega)) only [go_sem, ↓reduceIte, Nat.reduceSub, Nat.reduceAdd, Nat.reduceMul, Nat.reduceLeDiff, Nat.reduceLT, Nat.reduceEqDiff, Nat.reduceBEq, Int.reduceLE, Int.reduceLT, Int.reduceEq, Int.reduceNeg, Int.reduceAdd, Int.reduceSub, Int.reduceMul, Int.reduceToNat] at ih
      simp (maxSteps := 1000000) (disch := first | omega | (simp only [lens, List.length_map]; omega)) only [go_sem, ↓reduceIte, Nat.reduceSub, Nat.reduceAdd, Nat.reduceMul, Nat.reduceLeDiff, Nat.reduceLT, Nat.reduceEqDiff, Nat.reduceBEq, Int.reduceLE, Int.reduceLT, Int.reduceEq, Int.reduceNeg, Int.reduceAdd, Int.reduceSub, Int.reduceMul, Int.reduceToNat, i_ref14_members_b0, eI_1, eI_s1, eIa, eIe, e2, h1, ih]
    · rw [fmem_no hno]
      obtain ⟨B, q, wb⟩ := w
      simp only at *
      subst hno
      simp only [hF0, vM0, List.length_nil]
      rw [e1]
      simp (maxSteps := 1000000) (disch := first | omega | (simp only [lens, List.length_map]; omega)) only [go_sem, ↓reduceIte, Nat.reduceSub, Nat.reduceAdd, Nat.reduceMul, Nat.reduceLeDiff, Nat.reduceLT, Nat.reduceEqDiff, Nat.reduceBEq, Int.reduceLE, Int.reduceLT, Int.reduceEq, Int.reduceNeg, Int.reduceAdd, Int.reduceSub, Int.reduceMul, Int.reduceToNat, i_ref14_members_b0, e2]
theorem fmems_ev (w : Rf) (hq : w.ok) : Ev tab G0 n_ref14_members [.ptr 0 0] [fO w] = some ([.sl true (eI .i64 w.mems.1)], [fO w.mems.2]) := by
  have h1 := fcount_ev w hq
  have hc := w.cnt_ok hq
  have h2 := fm_loopA w.cnt.1.toNat w.cnt.2 (by omega) hc.1
  rw [Int.toNat_of_nonneg hc.2.1] at h2
  unfold Rf.mems
  generalize fmem w.cnt.1.toNat w.cnt.2 [] = z at *
  generalize w.cnt = p at *
  obtain ⟨x, q2⟩ := p
  obtain ⟨l, q3⟩ := z
  simp only at *
  refine Ev_run t_ref14_members rfl rfl ?_
  cases l with
  | nil =>
    simp only [hF0, vM0, List.length_nil] at h2
    try simp (maxSteps := 1000000) (disch := first | omega | (simp only [lens, List.length_map]; omega)) only [go_sem, ↓reduceIte, Nat.reduceSub, Nat.reduceAdd, Nat.reduceMul, Nat.reduceLeDiff, Nat.reduceLT, Nat.reduceEqDiff, Nat.reduceBEq, Int.reduceLE, Int.reduceLT, Int.reduceEq, Int.reduceNeg, Int.reduceAdd, Int.reduceSub, Int.reduceMul, Int.reduceToNat] at h2
    simp (maxSteps := 1000000) (disch := first | omega | (simp only [lens, List.length_map]; omega)) only [go_sem, ↓reduceIte, Nat.reduceSub, Nat.reduceAdd, Nat.reduceMul, Nat.reduceLeDiff, Nat.reduceLT, Nat.reduceEqDiff, Nat.reduceBEq, Int.reduceLE, Int.reduceLT, Int.reduceEq, Int.reduceNeg, Int.reduceAdd, Int.reduceSub, Int.reduceMul, Int.reduceToNat, i_ref14_members, eI0, h1, h2]
  | cons y l =>
    simp only [hF0, vM0] at h2
    have hl2 : ¬ (y :: l).length = 0 := by simp
    rw [if_neg hl2] at h2
    generalize y :: l = l2 at *
    try simp (maxSteps := 1000000) (disch := first | omega | (simp only [lens, List.length_map]; omega)) only [go_sem, ↓reduceIte, Nat.reduceSub, Nat.reduceAdd, Nat.reduceMul, Nat.reduceLeDiff, Nat.reduceLT, Nat.reduceEqDiff, Nat.reduceBEq, Int.reduceLE, Int.reduceLT, Int.reduceEq, Int.reduceNeg, Int.reduceAdd, Int.reduceSub, Int.reduceMul, Int.reduceToNat] at h2
    simp (maxSteps := 1000000) (disch := first | omega | (simp only [lens, List.length_map]; omega)) only [go_sem, ↓reduceIte, Nat.reduceSub, Nat.reduceAdd, Nat.reduceMul, Nat.reduceLeDiff, Nat.reduceLT, Nat.reduceEqDiff, Nat.reduceBEq, Int.reduceLE, Int.reduceLT, Int.reduceEq, Int.reduceNeg, Int.reduceAdd, Int.reduceSub, Int.reduceMul, Int.reduceToNat, i_ref14_members, h1, h2]

end Go.Proofs.Ytkfaahjcncpmhaa
