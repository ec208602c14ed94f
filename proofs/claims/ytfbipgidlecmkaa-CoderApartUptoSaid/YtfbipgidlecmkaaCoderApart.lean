/-
  CoderApart: the law, by the evaluator.
-/
import Derived.Test.YtfbipgidlecmkaaLBack
set_option linter.unusedSimpArgs false
set_option linter.unusedVariables false
set_option maxRecDepth 200000
set_option maxHeartbeats 4000000
namespace Go.Proofs.Ytfbipgidlecmkaa
open Go.Ev

theorem law_CoderApart (v u : Int) (m : List UInt8) (hv : 0 ≤ v ∧ v < 18446744073709551616) (hu : 0 ≤ u ∧ u < 18446744073709551616) (h : m.length ≤ 1048576) : ∃ outs, Ev tab G0 n_law02_CoderApart [u64 v, u64 u, .sl true (eB m)] [] = some ([bo true], outs) := by
  have h1 := coder_Number_ev v hv
  have h2 := coder_Number_ev u hu
  have l1 := num_len v
  have l2 := num_len u
  have h3 := coder_NewReader_ev (num v ++ m) (by simp; omega)
  have h4 := coder_ReaderNumber_ev ⟨num v ++ m, false⟩ (by simp; omega)
  rw [read_num v hv m] at h4
  refine ⟨[], Ev_run t_law02_CoderApart rfl rfl ?_⟩
  simp (maxSteps := 1000000) (disch := first | omega | (simp only [List.length_cons, List.length_nil, List.length_append, List.length_map, List.length_take, List.length_drop]; omega)) only [go_sem, ↓reduceIte, Nat.reduceSub, Nat.reduceAdd, Nat.reduceMul, Nat.reduceLeDiff, Nat.reduceLT, Nat.reduceEqDiff, Nat.reduceBEq, Int.reduceLE, Int.reduceLT, Int.reduceEq, Int.reduceNeg, Int.reduceAdd, Int.reduceSub, Int.reduceMul, Int.reduceToNat, i_law02_CoderApart, h1, h2, h3, h4]
  by_cases huv : u = v
  · subst huv
    simp
  · have hne : ¬ List.take (num v).length (num u) = num v := fun he => by
      have h5 := List.take_append_drop (num v).length (num u)
      rw [he] at h5
      exact huv (num_prefix hv hu h5.symm)
    simp [huv, hne]

end Go.Proofs.Ytfbipgidlecmkaa
