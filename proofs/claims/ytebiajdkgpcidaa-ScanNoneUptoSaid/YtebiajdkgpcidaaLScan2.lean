/-
  Whether a span is empty between two keys.
-/
import Derived.Test.YtebiajdkgpcidaaLScan
set_option linter.unusedSimpArgs false
set_option linter.unusedVariables false
set_option maxRecDepth 200000
set_option maxHeartbeats 4000000
namespace Go.Proofs.Ytebiajdkgpcidaa
open Go.Ev

def leastS (f low : List UInt8) (hl : Bool) : List UInt8 := if hl = true ∧ 0 ≤ cmp low f then low ++ [0] else f
def emptyS (f t : List UInt8) (o : Bool) (low high : List UInt8) (hl hh : Bool) : Bool := (!o && decide (0 ≤ cmp (leastS f low hl) t)) || (hh && decide (0 ≤ cmp (leastS f low hl) high))
theorem scan_Empty_ev (f t : List UInt8) (o : Bool) (low high : List UInt8) (hl hh : Bool) (hb : low.length ≤ 1048576) : Ev tab G0 n_scan_Empty [avSpan f t o, .sl true (eB low), .sl true (eB high), bo hl, bo hh] [] = some ([bo (emptyS f t o low high hl hh)], []) := by
  have h1 := scan_next_ev low hb
  have h2 := bytes_Compare_ev (low ++ [0]) f
  have n1 := cmp_next f low
  have s1 := cmp_swap f (low ++ [0])
  have s2 := cmp_swap f low
  have key : ∀ l : List UInt8, leastS f low hl = l → Ev tab G0 n_scan_Empty [avSpan f t o, .sl true (eB low), .sl true (eB high), bo hl, bo hh] [] = some ([bo (emptyS f t o low high hl hh)], []) := fun l hle => by
    have h3 := bytes_Compare_ev l t
    have h4 := bytes_Compare_ev l high
    refine Ev_run t_scan_Empty rfl rfl ?_
    rw [emptyS, hle]
    by_cases c : hl = true ∧ 0 ≤ cmp low f
    · rw [leastS, if_pos c] at hle
      subst hle
      obtain ⟨rfl, c⟩ := c
      have c' : 0 < cmp (low ++ [0]) f := by omega
      cases o <;> cases hh <;> by_cases c1 : 0 ≤ cmp (low ++ [0]) t <;> simp (maxSteps := 1000000) (disch := first | omega | (simp only [List.length_cons, List.length_nil, List.length_append, List.length_map, List.length_take, List.length_drop]; omega)) only [go_sem, ↓reduceIte, Nat.reduceSub, Nat.reduceAdd, Nat.reduceMul, Nat.reduceLeDiff, Nat.reduceLT, Nat.reduceEqDiff, Nat.reduceBEq, Int.reduceLE, Int.reduceLT, Int.reduceEq, Int.reduceNeg, Int.reduceAdd, Int.reduceSub, Int.reduceMul, Int.reduceToNat, i_scan_Empty, h1, h2, h3, h4]
    · rw [leastS, if_neg c] at hle
      subst hle
      cases hl
      · cases o <;> cases hh <;> by_cases c1 : 0 ≤ cmp f t <;> simp (maxSteps := 1000000) (disch := first | omega | (simp only [List.length_cons, List.length_nil, List.length_append, List.length_map, List.length_take, List.length_drop]; omega)) only [go_sem, ↓reduceIte, Nat.reduceSub, Nat.reduceAdd, Nat.reduceMul, Nat.reduceLeDiff, Nat.reduceLT, Nat.reduceEqDiff, Nat.reduceBEq, Int.reduceLE, Int.reduceLT, Int.reduceEq, Int.reduceNeg, Int.reduceAdd, Int.reduceSub, Int.reduceMul, Int.reduceToNat, i_scan_Empty, h1, h2, h3, h4]
      · simp only [true_and] at c
        have c' : ¬ 0 < cmp (low ++ [0]) f := by omega
        cases o <;> cases hh <;> by_cases c1 : 0 ≤ cmp f t <;> simp (maxSteps := 1000000) (disch := first | omega | (simp only [List.length_cons, List.length_nil, List.length_append, List.length_map, List.length_take, List.length_drop]; omega)) only [go_sem, ↓reduceIte, Nat.reduceSub, Nat.reduceAdd, Nat.reduceMul, Nat.reduceLeDiff, Nat.reduceLT, Nat.reduceEqDiff, Nat.reduceBEq, Int.reduceLE, Int.reduceLT, Int.reduceEq, Int.reduceNeg, Int.reduceAdd, Int.reduceSub, Int.reduceMul, Int.reduceToNat, i_scan_Empty, h1, h2, h3, h4]
  exact key _ rfl
theorem ref06_Empty_ev (f t : List UInt8) (o : Bool) (low high : List UInt8) (hl hh : Bool) (hb : low.length ≤ 1048576) : Ev tab G0 n_ref06_Empty [avSpan f t o, .sl true (eB low), .sl true (eB high), bo hl, bo hh] [] = some ([bo (emptyS f t o low high hl hh)], []) := by
  have key : ∀ l : List UInt8, leastS f low hl = l → Ev tab G0 n_ref06_Empty [avSpan f t o, .sl true (eB low), .sl true (eB high), bo hl, bo hh] [] = some ([bo (emptyS f t o low high hl hh)], []) := fun l hle => by
    refine Ev_run t_ref06_Empty rfl rfl ?_
    rw [emptyS, hle]
    have hadd : strOp .add (ByteArray.mk low.toArray) (ByteArray.mk #[0]) = some (.string (ByteArray.mk (low ++ [0]).toArray)) := by
      rw [s_add (by simp [ByteArray.size]; omega)]
      congr 2
    by_cases c : hl = true ∧ 0 ≤ cmp low f
    · rw [leastS, if_pos c] at hle
      subst hle
      obtain ⟨rfl, c⟩ := c
      cases o <;> cases hh <;> by_cases c1 : 0 ≤ cmp (low ++ [0]) t <;> by_cases c2 : 0 ≤ cmp (low ++ [0]) high <;> simp (maxSteps := 1000000) (disch := first | omega | (simp only [List.length_cons, List.length_nil, List.length_append, List.length_map, List.length_take, List.length_drop]; omega)) only [go_sem, ↓reduceIte, Nat.reduceSub, Nat.reduceAdd, Nat.reduceMul, Nat.reduceLeDiff, Nat.reduceLT, Nat.reduceEqDiff, Nat.reduceBEq, Int.reduceLE, Int.reduceLT, Int.reduceEq, Int.reduceNeg, Int.reduceAdd, Int.reduceSub, Int.reduceMul, Int.reduceToNat, i_ref06_Empty, less_cmp, hadd]
    · rw [leastS, if_neg c] at hle
      subst hle
      cases hl
      · cases o <;> cases hh <;> by_cases c1 : 0 ≤ cmp f t <;> by_cases c2 : 0 ≤ cmp f high <;> simp (maxSteps := 1000000) (disch := first | omega | (simp only [List.length_cons, List.length_nil, List.length_append, List.length_map, List.length_take, List.length_drop]; omega)) only [go_sem, ↓reduceIte, Nat.reduceSub, Nat.reduceAdd, Nat.reduceMul, Nat.reduceLeDiff, Nat.reduceLT, Nat.reduceEqDiff, Nat.reduceBEq, Int.reduceLE, Int.reduceLT, Int.reduceEq, Int.reduceNeg, Int.reduceAdd, Int.reduceSub, Int.reduceMul, Int.reduceToNat, i_ref06_Empty, less_cmp, hadd]
      · simp only [true_and] at c
        cases o <;> cases hh <;> by_cases c1 : 0 ≤ cmp f t <;> by_cases c2 : 0 ≤ cmp f high <;> simp (maxSteps := 1000000) (disch := first | omega | (simp only [List.length_cons, List.length_nil, List.length_append, List.length_map, List.length_take, List.length_drop]; omega)) only [go_sem, ↓reduceIte, Nat.reduceSub, Nat.reduceAdd, Nat.reduceMul, Nat.reduceLeDiff, Nat.reduceLT, Nat.reduceEqDiff, Nat.reduceBEq, Int.reduceLE, Int.reduceLT, Int.reduceEq, Int.reduceNeg, Int.reduceAdd, Int.reduceSub, Int.reduceMul, Int.reduceToNat, i_ref06_Empty, less_cmp, hadd]
  exact key _ rfl
theorem law_ScanEmpty (f t : List UInt8) (o : Bool) (low high : List UInt8) (hl hh : Bool) (hb : low.length ≤ 1048576) : ∃ outs, Ev tab G0 n_law06_ScanEmpty [avSpan f t o, .sl true (eB low), .sl true (eB high), bo hl, bo hh] [] = some ([bo true], outs) := by
  have h0 := up06_ev
  have h1 := scan_Empty_ev f t o low high hl hh hb
  have h2 := ref06_Empty_ev f t o low high hl hh hb
  generalize emptyS f t o low high hl hh = x at *
  have hx : (x == x) = true := beq_self_eq_true x
  refine ⟨[], Ev_run t_law06_ScanEmpty rfl rfl ?_⟩
  simp (maxSteps := 1000000) (disch := first | omega | (simp only [List.length_cons, List.length_nil, List.length_append, List.length_map, List.length_take, List.length_drop]; omega)) only [go_sem, ↓reduceIte, Nat.reduceSub, Nat.reduceAdd, Nat.reduceMul, Nat.reduceLeDiff, Nat.reduceLT, Nat.reduceEqDiff, Nat.reduceBEq, Int.reduceLE, Int.reduceLT, Int.reduceEq, Int.reduceNeg, Int.reduceAdd, Int.reduceSub, Int.reduceMul, Int.reduceToNat, i_law06_ScanEmpty, h0, h1, h2, hx]
theorem empty_none (f t : List UInt8) (o : Bool) (low high key : List UInt8) (hl hh : Bool) (he : emptyS f t o low high hl hh = true) (hk : inS f t o key = true) (h1 : hl = true → cmp low key < 0) (h2 : hh = true → cmp key high < 0) : False := by
  simp only [inS, Bool.and_eq_true, decide_eq_true_eq, Bool.or_eq_true] at hk
  obtain ⟨k1, k2⟩ := hk
  have hle : 0 ≤ cmp key (leastS f low hl) := by
    unfold leastS
    split
    · rename_i c
      have n1 := cmp_next key low
      have s1 := cmp_swap low key
      have := h1 c.1
      omega
    · exact k1
  have tr : ∀ b : List UInt8, 0 ≤ cmp (leastS f low hl) b → 0 ≤ cmp key b := fun b hb => by
    have s1 := cmp_swap (leastS f low hl) b
    have s2 := cmp_swap key (leastS f low hl)
    have s3 := cmp_swap key b
    have := (cmp_trans b (leastS f low hl) key (by omega) (by omega)).1
    omega
  simp only [emptyS, Bool.or_eq_true, Bool.and_eq_true, Bool.not_eq_true', decide_eq_true_eq] at he
  rcases he with ⟨ho, h⟩ | ⟨hh', h⟩
  · have := tr t h
    rcases k2 with k2 | k2
    · rw [ho] at k2; cases k2
    · omega
  · have := tr high h
    have := h2 hh'
    omega
theorem law_ScanNone (f t : List UInt8) (o : Bool) (low high : List UInt8) (hl hh : Bool) (key : List UInt8) (hb : low.length ≤ 1048576) : ∃ outs, Ev tab G0 n_law06_ScanNone [avSpan f t o, .sl true (eB low), .sl true (eB high), bo hl, bo hh, .sl true (eB key)] [] = some ([bo true], outs) := by
  have h0 := up06_ev
  have h1 := scan_Empty_ev f t o low high hl hh hb
  have h2 := scan_In_ev f t key o
  have hn := empty_none f t o low high key hl hh
  refine ⟨[], Ev_run t_law06_ScanNone rfl rfl ?_⟩
  cases he : emptyS f t o low high hl hh
  · rw [he] at h1
    cases hl <;> cases hh <;> by_cases c1 : cmp low key < 0 <;> by_cases c2 : cmp key high < 0 <;> simp (maxSteps := 1000000) (disch := first | omega | (simp only [List.length_cons, List.length_nil, List.length_append, List.length_map, List.length_take, List.length_drop]; omega)) only [go_sem, ↓reduceIte, Nat.reduceSub, Nat.reduceAdd, Nat.reduceMul, Nat.reduceLeDiff, Nat.reduceLT, Nat.reduceEqDiff, Nat.reduceBEq, Int.reduceLE, Int.reduceLT, Int.reduceEq, Int.reduceNeg, Int.reduceAdd, Int.reduceSub, Int.reduceMul, Int.reduceToNat, i_law06_ScanNone, h0, h1, less_cmp]
  · rw [he] at h1
    cases hi : inS f t o key
    · rw [hi] at h2
      cases hl <;> cases hh <;> by_cases c1 : cmp low key < 0 <;> by_cases c2 : cmp key high < 0 <;> simp (maxSteps := 1000000) (disch := first | omega | (simp only [List.length_cons, List.length_nil, List.length_append, List.length_map, List.length_take, List.length_drop]; omega)) only [go_sem, ↓reduceIte, Nat.reduceSub, Nat.reduceAdd, Nat.reduceMul, Nat.reduceLeDiff, Nat.reduceLT, Nat.reduceEqDiff, Nat.reduceBEq, Int.reduceLE, Int.reduceLT, Int.reduceEq, Int.reduceNeg, Int.reduceAdd, Int.reduceSub, Int.reduceMul, Int.reduceToNat, i_law06_ScanNone, h0, h1, h2, less_cmp]
    · rw [hi] at h2
      have hn := hn he hi
      cases hl <;> cases hh <;> by_cases c1 : cmp low key < 0 <;> by_cases c2 : cmp key high < 0 <;> first | (refine absurd (hn ?_ ?_) id <;> simp [c1, c2]; done) | (simp (maxSteps := 1000000) (disch := first | omega | (simp only [List.length_cons, List.length_nil, List.length_append, List.length_map, List.length_take, List.length_drop]; omega)) only [go_sem, ↓reduceIte, Nat.reduceSub, Nat.reduceAdd, Nat.reduceMul, Nat.reduceLeDiff, Nat.reduceLT, Nat.reduceEqDiff, Nat.reduceBEq, Int.reduceLE, Int.reduceLT, Int.reduceEq, Int.reduceNeg, Int.reduceAdd, Int.reduceSub, Int.reduceMul, Int.reduceToNat, i_law06_ScanNone, h0, h1, h2, less_cmp])

end Go.Proofs.Ytebiajdkgpcidaa
