/-
  Spans, by the evaluator.
-/
import Derived.Test.YtebiajdkgpcidaaLStr
import Derived.Test.YtebiajdkgpcidaaLClone
import Derived.KernelRfl
set_option linter.unusedSimpArgs false
set_option linter.unusedVariables false
set_option maxRecDepth 200000
set_option maxHeartbeats 4000000
namespace Go.Proofs.Ytebiajdkgpcidaa
open Go.Ev

abbrev avSpan (f t : List UInt8) (o : Bool) : AV := .agg [.sl true (eB f), .sl true (eB t), bo o]
/-- Is a key in a span? -/
def inS (f t : List UInt8) (o : Bool) (k : List UInt8) : Bool := decide (0 ≤ cmp k f) && (o || decide (cmp k t < 0))
theorem scan_In_ev (f t k : List UInt8) (o : Bool) : Ev tab G0 n_scan_In [avSpan f t o, .sl true (eB k)] [] = some ([bo (inS f t o k)], []) := by
  have h1 := bytes_Compare_ev k f
  have h2 := bytes_Compare_ev k t
  refine Ev_run t_scan_In rfl rfl ?_
  by_cases c1 : 0 ≤ cmp k f
  · cases o
    · simp (maxSteps := 1000000) (disch := first | omega | (simp only [List.length_cons, List.length_nil, List.length_append, List.length_map, List.length_take, List.length_drop]; omega)) only [go_sem, ↓reduceIte, Nat.reduceSub, Nat.reduceAdd, Nat.reduceMul, Nat.reduceLeDiff, Nat.reduceLT, Nat.reduceEqDiff, Nat.reduceBEq, Int.reduceLE, Int.reduceLT, Int.reduceEq, Int.reduceNeg, Int.reduceAdd, Int.reduceSub, Int.reduceMul, Int.reduceToNat, i_scan_In, inS, h1, h2]
    · simp (maxSteps := 1000000) (disch := first | omega | (simp only [List.length_cons, List.length_nil, List.length_append, List.length_map, List.length_take, List.length_drop]; omega)) only [go_sem, ↓reduceIte, Nat.reduceSub, Nat.reduceAdd, Nat.reduceMul, Nat.reduceLeDiff, Nat.reduceLT, Nat.reduceEqDiff, Nat.reduceBEq, Int.reduceLE, Int.reduceLT, Int.reduceEq, Int.reduceNeg, Int.reduceAdd, Int.reduceSub, Int.reduceMul, Int.reduceToNat, i_scan_In, inS, h1]
  · simp (maxSteps := 1000000) (disch := first | omega | (simp only [List.length_cons, List.length_nil, List.length_append, List.length_map, List.length_take, List.length_drop]; omega)) only [go_sem, ↓reduceIte, Nat.reduceSub, Nat.reduceAdd, Nat.reduceMul, Nat.reduceLeDiff, Nat.reduceLT, Nat.reduceEqDiff, Nat.reduceBEq, Int.reduceLE, Int.reduceLT, Int.reduceEq, Int.reduceNeg, Int.reduceAdd, Int.reduceSub, Int.reduceMul, Int.reduceToNat, i_scan_In, inS, h1]
theorem ref06_In_ev (f t k : List UInt8) (o : Bool) : Ev tab G0 n_ref06_In [avSpan f t o, .sl true (eB k)] [] = some ([bo (inS f t o k)], []) := by
  have hs := cmp_swap k f
  refine Ev_run t_ref06_In rfl rfl ?_
  by_cases c1 : 0 ≤ cmp k f
  · have e1 : (decide (cmp f k < 0) || decide (cmp f k = 0)) = true := by simp; omega
    cases o
    · simp (maxSteps := 1000000) (disch := first | omega | (simp only [List.length_cons, List.length_nil, List.length_append, List.length_map, List.length_take, List.length_drop]; omega)) only [go_sem, ↓reduceIte, Nat.reduceSub, Nat.reduceAdd, Nat.reduceMul, Nat.reduceLeDiff, Nat.reduceLT, Nat.reduceEqDiff, Nat.reduceBEq, Int.reduceLE, Int.reduceLT, Int.reduceEq, Int.reduceNeg, Int.reduceAdd, Int.reduceSub, Int.reduceMul, Int.reduceToNat, i_ref06_In, inS, less_cmp, eq_cmp, e1]
    · simp (maxSteps := 1000000) (disch := first | omega | (simp only [List.length_cons, List.length_nil, List.length_append, List.length_map, List.length_take, List.length_drop]; omega)) only [go_sem, ↓reduceIte, Nat.reduceSub, Nat.reduceAdd, Nat.reduceMul, Nat.reduceLeDiff, Nat.reduceLT, Nat.reduceEqDiff, Nat.reduceBEq, Int.reduceLE, Int.reduceLT, Int.reduceEq, Int.reduceNeg, Int.reduceAdd, Int.reduceSub, Int.reduceMul, Int.reduceToNat, i_ref06_In, inS, less_cmp, eq_cmp, e1]
  · have e1 : (decide (cmp f k < 0) || decide (cmp f k = 0)) = false := by simp; omega
    simp (maxSteps := 1000000) (disch := first | omega | (simp only [List.length_cons, List.length_nil, List.length_append, List.length_map, List.length_take, List.length_drop]; omega)) only [go_sem, ↓reduceIte, Nat.reduceSub, Nat.reduceAdd, Nat.reduceMul, Nat.reduceLeDiff, Nat.reduceLT, Nat.reduceEqDiff, Nat.reduceBEq, Int.reduceLE, Int.reduceLT, Int.reduceEq, Int.reduceNeg, Int.reduceAdd, Int.reduceSub, Int.reduceMul, Int.reduceToNat, i_ref06_In, inS, less_cmp, eq_cmp, e1]
theorem clone1_nil : Ev tab G0 n_slices_Clone_sl_byte_byte_v1 [.nilsl] [] = some ([.nilsl], [.dead]) := by
  refine Ev_raw t_slices_Clone_sl_byte_byte_v1 rfl (by simp) (evFn1_run rfl ?_)
  simp (maxSteps := 1000000) (disch := first | omega | (simp only [List.length_cons, List.length_nil, List.length_append, List.length_map, List.length_take, List.length_drop]; omega)) only [go_sem, ↓reduceIte, Nat.reduceSub, Nat.reduceAdd, Nat.reduceMul, Nat.reduceLeDiff, Nat.reduceLT, Nat.reduceEqDiff, Nat.reduceBEq, Int.reduceLE, Int.reduceLT, Int.reduceEq, Int.reduceNeg, Int.reduceAdd, Int.reduceSub, Int.reduceMul, Int.reduceToNat, i_slices_Clone_sl_byte_byte_v1]
theorem clone1_esl : Ev tab G0 n_slices_Clone_sl_byte_byte_v1 [.esl] [] = some ([.row 0 0], [.row ty_uint8 1 true false (eB [])]) := by
  refine Ev_raw t_slices_Clone_sl_byte_byte_v1 rfl (by simp) (evFn1_run rfl ?_)
  simp (maxSteps := 1000000) (disch := first | omega | (simp only [List.length_cons, List.length_nil, List.length_append, List.length_map, List.length_take, List.length_drop]; omega)) only [go_sem, ↓reduceIte, Nat.reduceSub, Nat.reduceAdd, Nat.reduceMul, Nat.reduceLeDiff, Nat.reduceLT, Nat.reduceEqDiff, Nat.reduceBEq, Int.reduceLE, Int.reduceLT, Int.reduceEq, Int.reduceNeg, Int.reduceAdd, Int.reduceSub, Int.reduceMul, Int.reduceToNat, i_slices_Clone_sl_byte_byte_v1]
theorem clone1_cons (b : UInt8) (l : List UInt8) (h : l.length ≤ 1073741824) : Ev tab G0 n_slices_Clone_sl_byte_byte_v1 [.sl true (eB (b :: l))] [] = some ([.row 0 (l.length + 1)], [.row ty_uint8 1 true false (eB (b :: l))]) := by
  refine Ev_raw t_slices_Clone_sl_byte_byte_v1 rfl (by simp [eB]) (evFn1_run rfl ?_)
  simp (maxSteps := 1000000) (disch := first | omega | (simp only [List.length_cons, List.length_nil, List.length_append, List.length_map, List.length_take, List.length_drop]; omega)) only [go_sem, ↓reduceIte, Nat.reduceSub, Nat.reduceAdd, Nat.reduceMul, Nat.reduceLeDiff, Nat.reduceLT, Nat.reduceEqDiff, Nat.reduceBEq, Int.reduceLE, Int.reduceLT, Int.reduceEq, Int.reduceNeg, Int.reduceAdd, Int.reduceSub, Int.reduceMul, Int.reduceToNat, i_slices_Clone_sl_byte_byte_v1]
theorem eqE_eB : ∀ l : List UInt8, eqE (eB l) (eB l) = true
  | [] => rfl
  | b :: l => by
    have := eqE_eB l
    simp only [eB, List.map_cons, eqE] at this ⊢
    simp [this]
/-- The key behind a key. -/
theorem scan_next_ev (k : List UInt8) (h : k.length ≤ 1048576) : Ev tab G0 n_scan_next [.sl true (eB k)] [] = some ([.sl true (eB (k ++ [0]))], []) := by
  have e0 : byt 0 = 0 := rfl
  have ie : ∀ (x : UInt8) (l : List UInt8), (eB (x :: l)).isEmpty = false := fun _ _ => rfl
  cases k with
  | nil =>
    have h1 := clone1_nil
    have h2 := clone1_esl
    refine Ev_nilq2 t_scan_next rfl rfl rfl (evFn1_run rfl ?_) (evFn1_run rfl ?_)
    · simp (maxSteps := 1000000) (disch := first | omega | (simp only [List.length_cons, List.length_nil, List.length_append, List.length_map, List.length_take, List.length_drop]; omega)) only [go_sem, ↓reduceIte, Nat.reduceSub, Nat.reduceAdd, Nat.reduceMul, Nat.reduceLeDiff, Nat.reduceLT, Nat.reduceEqDiff, Nat.reduceBEq, Int.reduceLE, Int.reduceLT, Int.reduceEq, Int.reduceNeg, Int.reduceAdd, Int.reduceSub, Int.reduceMul, Int.reduceToNat, i_scan_next, h1, e0, ie]
    · simp (maxSteps := 1000000) (disch := first | omega | (simp only [List.length_cons, List.length_nil, List.length_append, List.length_map, List.length_take, List.length_drop]; omega)) only [go_sem, ↓reduceIte, Nat.reduceSub, Nat.reduceAdd, Nat.reduceMul, Nat.reduceLeDiff, Nat.reduceLT, Nat.reduceEqDiff, Nat.reduceBEq, Int.reduceLE, Int.reduceLT, Int.reduceEq, Int.reduceNeg, Int.reduceAdd, Int.reduceSub, Int.reduceMul, Int.reduceToNat, i_scan_next, h2, e0, ie]
  | cons b l =>
    simp only [List.length_cons] at h
    have h1 := clone1_cons b l (by omega)
    rw [show eB (b :: l) = e1 b :: eB l from rfl]
    refine Ev_notnil t_scan_next rfl rfl (evFn1_run rfl ?_)
    simp (maxSteps := 1000000) (disch := first | omega | (simp only [List.length_cons, List.length_nil, List.length_append, List.length_map, List.length_take, List.length_drop]; omega)) only [go_sem, ↓reduceIte, Nat.reduceSub, Nat.reduceAdd, Nat.reduceMul, Nat.reduceLeDiff, Nat.reduceLT, Nat.reduceEqDiff, Nat.reduceBEq, Int.reduceLE, Int.reduceLT, Int.reduceEq, Int.reduceNeg, Int.reduceAdd, Int.reduceSub, Int.reduceMul, Int.reduceToNat, i_scan_next, h1, e0, ie]
theorem scan_Point_ev (k : List UInt8) (h : k.length ≤ 1048576) : Ev tab G0 n_scan_Point [.sl true (eB k)] [] = some ([avSpan k (k ++ [0]) false], []) := by
  have h1 := clone_bytes_ev k (by omega)
  have h2 := scan_next_ev k h
  refine Ev_run t_scan_Point rfl rfl ?_
  simp (maxSteps := 1000000) (disch := first | omega | (simp only [List.length_cons, List.length_nil, List.length_append, List.length_map, List.length_take, List.length_drop]; omega)) only [go_sem, ↓reduceIte, Nat.reduceSub, Nat.reduceAdd, Nat.reduceMul, Nat.reduceLeDiff, Nat.reduceLT, Nat.reduceEqDiff, Nat.reduceBEq, Int.reduceLE, Int.reduceLT, Int.reduceEq, Int.reduceNeg, Int.reduceAdd, Int.reduceSub, Int.reduceMul, Int.reduceToNat, i_scan_Point, h1, h2]
theorem up06_ev : Ev tab G0 n_law06_up [] [] = some ([bo true], []) := Ev_by 12 (by kernel_rfl)
theorem law_ScanIn (f t : List UInt8) (o : Bool) (k q : List UInt8) (hk : k.length ≤ 1048576) : ∃ outs, Ev tab G0 n_law06_ScanIn [avSpan f t o, .sl true (eB k), .sl true (eB q)] [] = some ([bo true], outs) := by
  have h0 := up06_ev
  have h1 := scan_In_ev f t k o
  have h2 := ref06_In_ev f t k o
  have h3 := scan_Point_ev k hk
  have h4 := scan_In_ev k (k ++ [0]) k false
  have h5 := scan_In_ev k (k ++ [0]) q false
  have n1 := cmp_next k k
  have n2 := cmp_next q k
  have s1 := cmp_self k
  have e1 : inS k (k ++ [0]) false k = true := by simp [inS, s1, n1]
  have e2 : inS k (k ++ [0]) false q = (q == k) := by
    have := cmp_range q k
    rw [eq_cmp]
    simp only [inS, n2, Bool.false_or, ← Bool.decide_and]
    exact decide_eq_decide.mpr (by omega)
  rw [e1] at h4
  rw [e2] at h5
  generalize inS f t o k = x at *
  have hx : (x == x) = true := beq_self_eq_true x
  have hq : ((q == k) == (q == k)) = true := beq_self_eq_true _
  refine ⟨[], Ev_run t_law06_ScanIn rfl rfl ?_⟩
  simp (maxSteps := 1000000) (disch := first | omega | (simp only [List.length_cons, List.length_nil, List.length_append, List.length_map, List.length_take, List.length_drop]; omega)) only [go_sem, ↓reduceIte, Nat.reduceSub, Nat.reduceAdd, Nat.reduceMul, Nat.reduceLeDiff, Nat.reduceLT, Nat.reduceEqDiff, Nat.reduceBEq, Int.reduceLE, Int.reduceLT, Int.reduceEq, Int.reduceNeg, Int.reduceAdd, Int.reduceSub, Int.reduceMul, Int.reduceToNat, i_law06_ScanIn, h0, h1, h2, h3, h4, h5, hx, hq, s1]

end Go.Proofs.Ytebiajdkgpcidaa
