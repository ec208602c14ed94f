/-
  Whether any part fits: the law.
-/
import Derived.Test.YtebiajdkgpcidaaDoorLChunk4
set_option linter.unusedSimpArgs false
set_option linter.unusedVariables false
set_option maxRecDepth 200000
set_option maxHeartbeats 4000000
namespace Go.Proofs.YtebiajdkgpcidaaDoor
open Go.Ev

theorem law_ChunkFits (w : Int) (t : T) (i : Int) (p : T) (hw : -9223372036854775808 ≤ w ∧ w < 9223372036854775808) (hs : t.size ≤ 1048576) (hi : -9223372036854775808 ≤ i ∧ i < 9223372036854775808) (hp : p.size ≤ 1048576) : ∃ outs, Ev tab G0 n_law11_ChunkFits [i64 w, avT t, i64 i, avT p] [] = some ([bo true], outs) := by
  have h0 := up11_ev
  have h1 := small11_ev t hs
  have h2 := small11_ev p hp
  have h3 := chunk_Fits_ev w t i p hw hi hs hp
  have h4 := rFits_ev w t i p hw hi hs hp
  have hcc := fitC_cases w t i p
  have h5 := law00_Code_ev (fitC w t i p) (by omega)
  have hm := ref01_Made_ev
  try simp (maxSteps := 1000000) (disch := first | omega | (simp only [List.length_cons, List.length_nil, List.length_append, List.length_map, List.length_take, List.length_drop]; omega)) only [go_sem, ↓reduceIte, Nat.reduceSub, Nat.reduceAdd, Nat.reduceMul, Nat.reduceLeDiff, Nat.reduceLT, Nat.reduceEqDiff, Nat.reduceBEq, Int.reduceLE, Int.reduceLT, Int.reduceEq, Int.reduceNeg, Int.reduceAdd, Int.reduceSub, Int.reduceMul, Int.reduceToNat] at h4
  generalize fitC w t i p = c at *
  refine ⟨[], Ev_run t_law11_ChunkFits rfl rfl ?_⟩
  cases hl : decide (0 ≤ t.light 200 100)
  · rw [hl] at h1
    simp (maxSteps := 1000000) (disch := first | omega | (simp only [List.length_cons, List.length_nil, List.length_append, List.length_map, List.length_take, List.length_drop]; omega)) only [go_sem, ↓reduceIte, Nat.reduceSub, Nat.reduceAdd, Nat.reduceMul, Nat.reduceLeDiff, Nat.reduceLT, Nat.reduceEqDiff, Nat.reduceBEq, Int.reduceLE, Int.reduceLT, Int.reduceEq, Int.reduceNeg, Int.reduceAdd, Int.reduceSub, Int.reduceMul, Int.reduceToNat, i_law11_ChunkFits, h0, h1]
  · rw [hl] at h1
    cases hl2 : decide (0 ≤ p.light 200 100)
    · rw [hl2] at h2
      simp (maxSteps := 1000000) (disch := first | omega | (simp only [List.length_cons, List.length_nil, List.length_append, List.length_map, List.length_take, List.length_drop]; omega)) only [go_sem, ↓reduceIte, Nat.reduceSub, Nat.reduceAdd, Nat.reduceMul, Nat.reduceLeDiff, Nat.reduceLT, Nat.reduceEqDiff, Nat.reduceBEq, Int.reduceLE, Int.reduceLT, Int.reduceEq, Int.reduceNeg, Int.reduceAdd, Int.reduceSub, Int.reduceMul, Int.reduceToNat, i_law11_ChunkFits, h0, h1, h2]
    · rw [hl2] at h2
      by_cases hc : c = 0
      · subst hc
        have e : errV 0 = .s .nilIface := if_pos rfl
        rw [e] at h3 h5
        simp (maxSteps := 1000000) (disch := first | omega | (simp only [List.length_cons, List.length_nil, List.length_append, List.length_map, List.length_take, List.length_drop]; omega)) only [go_sem, ↓reduceIte, Nat.reduceSub, Nat.reduceAdd, Nat.reduceMul, Nat.reduceLeDiff, Nat.reduceLT, Nat.reduceEqDiff, Nat.reduceBEq, Int.reduceLE, Int.reduceLT, Int.reduceEq, Int.reduceNeg, Int.reduceAdd, Int.reduceSub, Int.reduceMul, Int.reduceToNat, i_law11_ChunkFits, h0, h1, h2, h3, h4, h5, hm]
      · have e : errV c = errA c := if_neg hc
        rw [e] at h3 h5
        simp (maxSteps := 1000000) (disch := first | omega | (simp only [List.length_cons, List.length_nil, List.length_append, List.length_map, List.length_take, List.length_drop]; omega)) only [go_sem, ↓reduceIte, Nat.reduceSub, Nat.reduceAdd, Nat.reduceMul, Nat.reduceLeDiff, Nat.reduceLT, Nat.reduceEqDiff, Nat.reduceBEq, Int.reduceLE, Int.reduceLT, Int.reduceEq, Int.reduceNeg, Int.reduceAdd, Int.reduceSub, Int.reduceMul, Int.reduceToNat, i_law11_ChunkFits, h0, h1, h2, h3, h4, h5, hm]

end Go.Proofs.YtebiajdkgpcidaaDoor
