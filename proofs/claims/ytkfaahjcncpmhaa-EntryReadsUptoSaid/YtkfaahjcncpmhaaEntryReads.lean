/-
  The log, and the message, of any bytes: the law.
-/
import Derived.Test.YtkfaahjcncpmhaaLRdr11
import Derived.Test.YtkfaahjcncpmhaaLMsg2
set_option linter.unusedSimpArgs false
set_option linter.unusedVariables false
set_option maxRecDepth 200000
set_option maxHeartbeats 4000000
namespace Go.Proofs.Ytkfaahjcncpmhaa
open Go.Ev

theorem lgC_c (b : List UInt8) : lgC b = 0 ∨ lgC b = 2 ∨ lgC b = 3 ∨ lgC b = 4 := by
  unfold lgC
  split
  · exact .inr (.inl rfl)
  · rcases (qLog b).2.fn_c with h | h | h <;> rw [h] <;> simp
theorem msC_c (b : List UInt8) : msC b = 0 ∨ msC b = 2 ∨ msC b = 3 ∨ msC b = 4 := by
  unfold msC
  split
  · exact .inr (.inl rfl)
  · rcases (G13 b).2.fn_c with h | h | h <;> rw [h] <;> simp
theorem law_EntryReads (b : List UInt8) (hb : b.length ≤ 1048576) : ∃ outs, Ev tab G0 n_law14_EntryReads [.sl true (eB b)] [] = some ([bo true], outs) := by
  have h0 := up14_ev
  refine ⟨[], Ev_run t_law14_EntryReads rfl rfl ?_⟩
  by_cases h2 : 20000 < b.length
  · simp (maxSteps := 1000000) (disch := first | omega | (simp only [lens, List.length_map]; omega)) only [go_sem, ↓reduceIte, Nat.reduceSub, Nat.reduceAdd, Nat.reduceMul, Nat.reduceLeDiff, Nat.reduceLT, Nat.reduceEqDiff, Nat.reduceBEq, Int.reduceLE, Int.reduceLT, Int.reduceEq, Int.reduceNeg, Int.reduceAdd, Int.reduceSub, Int.reduceMul, Int.reduceToNat, i_law14_EntryReads, h0, h2]
  · have h1 := ReadLog_ev b (by omega)
    have h3 := Read_ev b (by omega)
    have h4 := fReadLog_ev b (by omega)
    have h5 := fRead14_ev b (by omega)
    have c1 := lgC_c b
    have c2 := msC_c b
    have h6 := law00_Code_ev (lgC b) (by omega)
    have h7 := law00_Code_ev (msC b) (by omega)
    obtain ⟨f1, f2⟩ := log_fits b (by omega)
    have f3 := msg_fits b (by omega)
    rw [← log_c b (by omega), ← log_v b (by omega)] at h4
    obtain ⟨e1, e2⟩ := msg_cv b (by omega)
    rw [← e1, ← e2] at h5
    clear e1 e2 c1 c2
    generalize lgV b = g at *
    generalize lgC b = c at *
    generalize msV b = m at *
    generalize msC b = d at *
    have h8 := rWriteLog_ev g f1 f2
    have h9 := rWrite_ev m f3
    have w1 : (g.p.endB == g.p.endB) = true := beq_self_eq_true _
    have w2 : (m.p.endB == m.p.endB) = true := beq_self_eq_true _
    have n1 : decide (¬ c = c) = false := by simp
    have n2 : decide (¬ d = d) = false := by simp
    generalize g.p.endB = eb at *
    generalize g.p.endC = ec at *
    generalize m.p.endB = fb at *
    generalize m.p.endC = fc at *
    obtain ⟨v, hv, r1⟩ : ∃ v, errV c = .s v ∧ AV.canon (.s v) = .s v := by
      unfold errV
      split
      · exact ⟨_, rfl, rfl⟩
      · exact ⟨_, rfl, rfl⟩
    obtain ⟨u, hu, r2⟩ : ∃ v, errV d = .s v ∧ AV.canon (.s v) = .s v := by
      unfold errV
      split
      · exact ⟨_, rfl, rfl⟩
      · exact ⟨_, rfl, rfl⟩
    rw [hv] at h1 h6
    rw [hu] at h3 h7
    simp (maxSteps := 1000000) (disch := first | omega | (simp only [lens, List.length_map]; omega)) only [go_sem, ↓reduceIte, Nat.reduceSub, Nat.reduceAdd, Nat.reduceMul, Nat.reduceLeDiff, Nat.reduceLT, Nat.reduceEqDiff, Nat.reduceBEq, Int.reduceLE, Int.reduceLT, Int.reduceEq, Int.reduceNeg, Int.reduceAdd, Int.reduceSub, Int.reduceMul, Int.reduceToNat, i_law14_EntryReads, h0, h2, h1, h3, h4, h5, h6, h7, h8, h9, w1, w2, r1, r2, n1, n2]

end Go.Proofs.Ytkfaahjcncpmhaa
