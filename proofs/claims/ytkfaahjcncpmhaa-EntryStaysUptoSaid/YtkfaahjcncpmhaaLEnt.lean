/-
  The document's examples; few entries.
-/
import Derived.Test.YtkfaahjcncpmhaaLWr5
import Derived.KernelRfl
set_option linter.unusedSimpArgs false
set_option linter.unusedVariables false
set_option maxRecDepth 200000
set_option maxHeartbeats 4000000
namespace Go.Proofs.Ytkfaahjcncpmhaa
open Go.Ev

theorem up14_ev : Ev tab G0 n_law14_up [] [] = some ([bo true], []) := Ev_by 60 (by kernel_rfl)
theorem few_loop (l : List Ent) (hl : l.length ≤ 1048576) : ∀ (n i : Nat), n + i = l.length → ∃ r : Bool, (r = true → ∀ e ∈ l.drop i, e.2.2.length ≤ 5000) ∧ L_law14_few_0 (s_law14_few_K0 (.sl true (eE l)) (i64 i) []) = if r = true then some (.exit 0, s_law14_few_J0 []) else some (.ret, s_law14_few_R (bo false) [])
  | 0, i, h => by
    refine ⟨true, fun _ => by rw [List.drop_of_length_le (by omega)]; simp, ?_⟩
    rw [if_pos rfl, L_law14_few_0_eq]
    simp (maxSteps := 1000000) (disch := first | omega | (simp only [lens, List.length_map]; omega)) only [go_sem, ↓reduceIte, Nat.reduceSub, Nat.reduceAdd, Nat.reduceMul, Nat.reduceLeDiff, Nat.reduceLT, Nat.reduceEqDiff, Nat.reduceBEq, Int.reduceLE, Int.reduceLT, Int.reduceEq, Int.reduceNeg, Int.reduceAdd, Int.reduceSub, Int.reduceMul, Int.reduceToNat, i_law14_few_b0]
  | n + 1, i, h => by
    obtain ⟨r, hr, ih⟩ := few_loop l hl n (i + 1) (by omega)
    rw [drop_step (d := (0, 0, [])) (by omega), L_law14_few_0_eq]
    generalize hd : l.getD i (0, 0, []) = e at *
    try simp (maxSteps := 1000000) (disch := first | omega | (simp only [lens, List.length_map]; omega)) only [go_sem, ↓reduceIte, Nat.reduceSub, Nat.reduceAdd, Nat.reduceMul, Nat.reduceLeDiff, Nat.reduceLT, Nat.reduceEqDiff, Nat.reduceBEq, Int.reduceLE, Int.reduceLT, Int.reduceEq, Int.reduceNeg, Int.reduceAdd, Int.reduceSub, Int.reduceMul, Int.reduceToNat] at ih
    by_cases hc : 5000 < e.2.2.length
    · refine ⟨false, (fun h => by cases h), ?_⟩
      rw [if_neg (by simp)]
      simp (maxSteps := 1000000) (disch := first | omega | (simp only [lens, List.length_map]; omega)) only [go_sem, ↓reduceIte, Nat.reduceSub, Nat.reduceAdd, Nat.reduceMul, Nat.reduceLeDiff, Nat.reduceLT, Nat.reduceEqDiff, Nat.reduceBEq, Int.reduceLE, Int.reduceLT, Int.reduceEq, Int.reduceNeg, Int.reduceAdd, Int.reduceSub, Int.reduceMul, Int.reduceToNat, i_law14_few_b0, hd, hc]
    · refine ⟨r, fun h x hx => ?_, ?_⟩
      · rcases List.mem_cons.1 hx with rfl | hx
        · omega
        · exact hr h x hx
      · simp (maxSteps := 1000000) (disch := first | omega | (simp only [lens, List.length_map]; omega)) only [go_sem, ↓reduceIte, Nat.reduceSub, Nat.reduceAdd, Nat.reduceMul, Nat.reduceLeDiff, Nat.reduceLT, Nat.reduceEqDiff, Nat.reduceBEq, Int.reduceLE, Int.reduceLT, Int.reduceEq, Int.reduceNeg, Int.reduceAdd, Int.reduceSub, Int.reduceMul, Int.reduceToNat, i_law14_few_b0, hd, hc, ih]
theorem few_ev (l : List Ent) (hl : l.length ≤ 1048576) : ∃ r : Bool, (r = true → l.length ≤ 300 ∧ ∀ e ∈ l, e.2.2.length ≤ 5000) ∧ Ev tab G0 n_law14_few [.sl true (eE l)] [] = some ([bo r], []) := by
  obtain ⟨r, hr, h⟩ := few_loop l hl l.length 0 (by omega)
  have e0 : ((0 : Nat) : Int) = 0 := rfl
  rw [e0] at h
  rw [List.drop_zero] at hr
  by_cases h3 : 300 < l.length
  · refine ⟨false, (fun h => by cases h), Ev_run t_law14_few rfl rfl ?_⟩
    simp (maxSteps := 1000000) (disch := first | omega | (simp only [lens, List.length_map]; omega)) only [go_sem, ↓reduceIte, Nat.reduceSub, Nat.reduceAdd, Nat.reduceMul, Nat.reduceLeDiff, Nat.reduceLT, Nat.reduceEqDiff, Nat.reduceBEq, Int.reduceLE, Int.reduceLT, Int.reduceEq, Int.reduceNeg, Int.reduceAdd, Int.reduceSub, Int.reduceMul, Int.reduceToNat, i_law14_few]
  · refine ⟨r, fun h => ⟨by omega, hr h⟩, Ev_run t_law14_few rfl rfl ?_⟩
    cases r
    · rw [if_neg (by simp)] at h
      simp (maxSteps := 1000000) (disch := first | omega | (simp only [lens, List.length_map]; omega)) only [go_sem, ↓reduceIte, Nat.reduceSub, Nat.reduceAdd, Nat.reduceMul, Nat.reduceLeDiff, Nat.reduceLT, Nat.reduceEqDiff, Nat.reduceBEq, Int.reduceLE, Int.reduceLT, Int.reduceEq, Int.reduceNeg, Int.reduceAdd, Int.reduceSub, Int.reduceMul, Int.reduceToNat, i_law14_few, h]
    · rw [if_pos rfl] at h
      simp (maxSteps := 1000000) (disch := first | omega | (simp only [lens, List.length_map]; omega)) only [go_sem, ↓reduceIte, Nat.reduceSub, Nat.reduceAdd, Nat.reduceMul, Nat.reduceLeDiff, Nat.reduceLT, Nat.reduceEqDiff, Nat.reduceBEq, Int.reduceLE, Int.reduceLT, Int.reduceEq, Int.reduceNeg, Int.reduceAdd, Int.reduceSub, Int.reduceMul, Int.reduceToNat, i_law14_few, h]

end Go.Proofs.Ytkfaahjcncpmhaa
