/-
  Trees written, then read; read, then written: the law.
-/
import Derived.Test.YtebiajdkgpcidaaLCodeB
set_option linter.unusedSimpArgs false
set_option linter.unusedVariables false
set_option maxRecDepth 200000
set_option maxHeartbeats 4000000
namespace Go.Proofs.Ytebiajdkgpcidaa
open Go.Ev

theorem law_CodeBack0 (t : T) (x : UInt8) (b : List UInt8) (hs : t.size ≤ 1048576) (h : b.length ≤ 1048576) : ∃ outs, Ev tab G0 n_law10_CodeBack [avT t, u8 x.toNat, .sl true (eB b)] [] = some ([bo true], outs) := by
  have h0 := up10_ev
  have h1 := small10_ev t hs
  refine ⟨[], Ev_run t_law10_CodeBack rfl rfl ?_⟩
  cases hl : decide (0 ≤ t.light 300 200)
  · rw [hl] at h1
    simp (maxSteps := 1000000) (disch := first | omega | (simp only [List.length_cons, List.length_nil, List.length_append, List.length_map, List.length_take, List.length_drop]; omega)) only [go_sem, ↓reduceIte, Nat.reduceSub, Nat.reduceAdd, Nat.reduceMul, Nat.reduceLeDiff, Nat.reduceLT, Nat.reduceEqDiff, Nat.reduceBEq, Int.reduceLE, Int.reduceLT, Int.reduceEq, Int.reduceNeg, Int.reduceAdd, Int.reduceSub, Int.reduceMul, Int.reduceToNat, i_law10_CodeBack, h0, h1]
  · rw [hl] at h1
    by_cases hb : 5000 < b.length
    · simp (maxSteps := 1000000) (disch := first | omega | (simp only [List.length_cons, List.length_nil, List.length_append, List.length_map, List.length_take, List.length_drop]; omega)) only [go_sem, ↓reduceIte, Nat.reduceSub, Nat.reduceAdd, Nat.reduceMul, Nat.reduceLeDiff, Nat.reduceLT, Nat.reduceEqDiff, Nat.reduceBEq, Int.reduceLE, Int.reduceLT, Int.reduceEq, Int.reduceNeg, Int.reduceAdd, Int.reduceSub, Int.reduceMul, Int.reduceToNat, i_law10_CodeBack, h0, h1]
    · have h2 := code_Read_ev b h
      have hsz := rdV_sz b
      have h3 := code_Write_ev (rdV b) (by omega)
      have h4 := code_Write_ev t hs
      simp only [decide_eq_true_eq] at hl
      by_cases hw : wrC t = 0
      · have e1 := back_2 hw hs
        have e2 := back_3 hw hs hl
        have e3 := back_4 hw hs x
        have e4 := wr_small hw hl
        have e5 := wr_pos t
        have h5 := code_Read_ev t.wr (by omega)
        have h6 := code_Read_ev t.wr.dropLast (by rw [List.length_dropLast]; omega)
        have h7 := code_Read_ev (t.wr ++ [x]) (by rw [List.length_append, List.length_singleton]; omega)
        have h8 := ref04_Same_self t hs
        have c0 : errV 0 = .s .nilIface := if_pos rfl
        have c3 : errV 3 = errA 3 := if_neg (by decide)
        have c4 : errV 4 = errA 4 := if_neg (by decide)
        have v6 : rdV t.wr.dropLast = .no := if_neg (by omega)
        have v7 : rdV (t.wr ++ [x]) = .no := if_neg (by omega)
        rw [e1.1, e1.2, c0] at h5
        rw [e2, v6, c3, List.dropLast_eq_take] at h6
        rw [e3, v7, c4] at h7
        rw [hw, c0, wrB_good hw] at h4
        generalize t.wr = w at *
        have et : ((w.length : Int) - 1).toNat = w.length - 1 := by omega
        by_cases hr : rdC b = 0
        · have f1 := back_1 hr
          rw [hr, c0] at h2
          rw [f1.1, c0, wrB_good f1.1, f1.2] at h3
          have hbb : (b == b) = true := beq_self_eq_true _
          simp (maxSteps := 1000000) (disch := first | omega | (simp only [List.length_cons, List.length_nil, List.length_append, List.length_map, List.length_take, List.length_drop]; omega)) only [go_sem, ↓reduceIte, Nat.reduceSub, Nat.reduceAdd, Nat.reduceMul, Nat.reduceLeDiff, Nat.reduceLT, Nat.reduceEqDiff, Nat.reduceBEq, Int.reduceLE, Int.reduceLT, Int.reduceEq, Int.reduceNeg, Int.reduceAdd, Int.reduceSub, Int.reduceMul, Int.reduceToNat, i_law10_CodeBack, h0, h1, h2, h3, h4, h5, h6, h7, h8, et, hbb]
        · have e : errV (rdC b) = errA (rdC b) := if_neg hr
          rw [e] at h2
          generalize wrB (rdV b) = w2 at *
          generalize errV (wrC (rdV b)) = w3 at *
          simp (maxSteps := 1000000) (disch := first | omega | (simp only [List.length_cons, List.length_nil, List.length_append, List.length_map, List.length_take, List.length_drop]; omega)) only [go_sem, ↓reduceIte, Nat.reduceSub, Nat.reduceAdd, Nat.reduceMul, Nat.reduceLeDiff, Nat.reduceLT, Nat.reduceEqDiff, Nat.reduceBEq, Int.reduceLE, Int.reduceLT, Int.reduceEq, Int.reduceNeg, Int.reduceAdd, Int.reduceSub, Int.reduceMul, Int.reduceToNat, i_law10_CodeBack, h0, h1, h2, h3, h4, h5, h6, h7, h8, et]
      · have e : errV (wrC t) = errA (wrC t) := if_neg hw
        rw [e] at h4
        by_cases hr : rdC b = 0
        · have f1 := back_1 hr
          have c0 : errV 0 = .s .nilIface := if_pos rfl
          rw [hr, c0] at h2
          rw [f1.1, c0, wrB_good f1.1, f1.2] at h3
          have hbb : (b == b) = true := beq_self_eq_true _
          simp (maxSteps := 1000000) (disch := first | omega | (simp only [List.length_cons, List.length_nil, List.length_append, List.length_map, List.length_take, List.length_drop]; omega)) only [go_sem, ↓reduceIte, Nat.reduceSub, Nat.reduceAdd, Nat.reduceMul, Nat.reduceLeDiff, Nat.reduceLT, Nat.reduceEqDiff, Nat.reduceBEq, Int.reduceLE, Int.reduceLT, Int.reduceEq, Int.reduceNeg, Int.reduceAdd, Int.reduceSub, Int.reduceMul, Int.reduceToNat, i_law10_CodeBack, h0, h1, h2, h3, h4, hbb]
        · have e : errV (rdC b) = errA (rdC b) := if_neg hr
          rw [e] at h2
          simp (maxSteps := 1000000) (disch := first | omega | (simp only [List.length_cons, List.length_nil, List.length_append, List.length_map, List.length_take, List.length_drop]; omega)) only [go_sem, ↓reduceIte, Nat.reduceSub, Nat.reduceAdd, Nat.reduceMul, Nat.reduceLeDiff, Nat.reduceLT, Nat.reduceEqDiff, Nat.reduceBEq, Int.reduceLE, Int.reduceLT, Int.reduceEq, Int.reduceNeg, Int.reduceAdd, Int.reduceSub, Int.reduceMul, Int.reduceToNat, i_law10_CodeBack, h0, h1, h2, h3, h4]
theorem law_CodeBack (t : T) (x : Int) (b : List UInt8) (hs : t.size ≤ 1048576) (hx : 0 ≤ x ∧ x < 256) (h : b.length ≤ 1048576) : ∃ outs, Ev tab G0 n_law10_CodeBack [avT t, u8 x, .sl true (eB b)] [] = some ([bo true], outs) := by
  have := law_CodeBack0 t (byt x) b hs h
  rw [byt_small hx] at this
  exact this

end Go.Proofs.Ytebiajdkgpcidaa
