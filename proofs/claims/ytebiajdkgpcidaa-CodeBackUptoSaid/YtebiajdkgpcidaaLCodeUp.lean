/-
  The document's examples; what is written.
-/
import Derived.Test.YtebiajdkgpcidaaLCodeW2
import Derived.KernelRfl
set_option linter.unusedSimpArgs false
set_option linter.unusedVariables false
set_option maxRecDepth 200000
set_option maxHeartbeats 4000000
namespace Go.Proofs.Ytebiajdkgpcidaa
open Go.Ev

theorem up10_ev : Ev tab G0 n_law10_up [] [] = some ([bo true], []) := Ev_by 40 (by kernel_rfl)
theorem law_CodeWrites (t : T) (hs : t.size ≤ 1048576) : ∃ outs, Ev tab G0 n_law10_CodeWrites [avT t] [] = some ([bo true], outs) := by
  have h0 := up10_ev
  have h1 := small10_ev t hs
  have h2 := code_Write_ev t hs
  have h3 := ref10_Write_ev t hs
  have hc := wrC_cases t
  have h4 := law00_Code_ev (wrC t) (by omega)
  generalize wrB t = w at *
  generalize wrC t = c at *
  have hw : (w == w) = true := beq_self_eq_true _
  refine ⟨[], Ev_run t_law10_CodeWrites rfl rfl ?_⟩
  cases hl : decide (0 ≤ t.light 300 200)
  · rw [hl] at h1
    simp (maxSteps := 1000000) (disch := first | omega | (simp only [List.length_cons, List.length_nil, List.length_append, List.length_map, List.length_take, List.length_drop]; omega)) only [go_sem, ↓reduceIte, Nat.reduceSub, Nat.reduceAdd, Nat.reduceMul, Nat.reduceLeDiff, Nat.reduceLT, Nat.reduceEqDiff, Nat.reduceBEq, Int.reduceLE, Int.reduceLT, Int.reduceEq, Int.reduceNeg, Int.reduceAdd, Int.reduceSub, Int.reduceMul, Int.reduceToNat, i_law10_CodeWrites, h0, h1]
  · rw [hl] at h1
    by_cases h0c : c = 0
    · subst h0c
      have e : errV 0 = .s .nilIface := if_pos rfl
      rw [e] at h2 h4
      simp (maxSteps := 1000000) (disch := first | omega | (simp only [List.length_cons, List.length_nil, List.length_append, List.length_map, List.length_take, List.length_drop]; omega)) only [go_sem, ↓reduceIte, Nat.reduceSub, Nat.reduceAdd, Nat.reduceMul, Nat.reduceLeDiff, Nat.reduceLT, Nat.reduceEqDiff, Nat.reduceBEq, Int.reduceLE, Int.reduceLT, Int.reduceEq, Int.reduceNeg, Int.reduceAdd, Int.reduceSub, Int.reduceMul, Int.reduceToNat, i_law10_CodeWrites, h0, h1, h2, h3, h4, hw]
    · have e : errV c = errA c := if_neg h0c
      rw [e] at h2 h4
      simp (maxSteps := 1000000) (disch := first | omega | (simp only [List.length_cons, List.length_nil, List.length_append, List.length_map, List.length_take, List.length_drop]; omega)) only [go_sem, ↓reduceIte, Nat.reduceSub, Nat.reduceAdd, Nat.reduceMul, Nat.reduceLeDiff, Nat.reduceLT, Nat.reduceEqDiff, Nat.reduceBEq, Int.reduceLE, Int.reduceLT, Int.reduceEq, Int.reduceNeg, Int.reduceAdd, Int.reduceSub, Int.reduceMul, Int.reduceToNat, i_law10_CodeWrites, h0, h1, h2, h3, h4, hw]

end Go.Proofs.Ytebiajdkgpcidaa
