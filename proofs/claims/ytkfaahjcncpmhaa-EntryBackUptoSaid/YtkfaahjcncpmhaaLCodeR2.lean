/-
  Trees out of bytes: what is amiss.
-/
import Derived.Test.YtkfaahjcncpmhaaLCodeR
set_option linter.unusedSimpArgs false
set_option linter.unusedVariables false
set_option maxRecDepth 200000
set_option maxHeartbeats 4000000
namespace Go.Proofs.Ytkfaahjcncpmhaa
open Go.Ev

theorem read1_bad2 (d : Nat) (hd : d ≤ 64) (r : Rd) (bad : Bool) (h : r.b.length ≤ 1073741824) (hk : r.kd = 2) (hb : d = 0 ∨ (hdT r).2.bad = true ∨ bad = true) : Ev tab G0 n_code_Read_1 [i64 d, .ptr 0 0, .ptr 2 0, .ptr 3 0] (insR r bad) = some ([avT (hdT r).1], insR (hdT r).2 true) := by
  have h1 := coder_Byte_k r h
  have hl := r.byte_le
  have hl2 := r.byte.2.bytes_le 80
  have h2 := coder_ReaderBytes_ev r.byte.2 80 (by omega) (by omega)
  have hl3 := (r.byte.2.bytes 80).2.bytes_le 32
  have h3 := coder_ReaderBytes_ev (r.byte.2.bytes 80).2 32 (by omega) (by omega)
  have h4 := coder_End_ev ((r.byte.2.bytes 80).2.bytes 32).2 (by omega)
  have hc := errV_cases ((r.byte.2.bytes 80).2.bytes 32).2
  rw [hdT_2 hk] at *
  rw [hk] at h1
  simp only [avT_leaf, eBn] at *
  generalize (r.byte.2.bytes 80).2.bytes 32 = r3 at *
  generalize r.byte.2.bytes 80 = r2 at *
  generalize r.byte.2 = r1 at *
  generalize errV r3.2.fin = e at *
  by_cases hd0 : d = 0
  · subst hd0
    refine Ev_run t_code_Read_1 rfl rfl ?_
    simp (maxSteps := 1000000) (disch := first | omega | (simp only [lens, List.length_map]; omega)) only [go_sem, ↓reduceIte, Nat.reduceSub, Nat.reduceAdd, Nat.reduceMul, Nat.reduceLeDiff, Nat.reduceLT, Nat.reduceEqDiff, Nat.reduceBEq, Int.reduceLE, Int.reduceLT, Int.reduceEq, Int.reduceNeg, Int.reduceAdd, Int.reduceSub, Int.reduceMul, Int.reduceToNat, i_code_Read_1, h1, h2, h3]
  · have hd1 : ¬ ((d : Int) = 0) := by omega
    cases hx : r3.2.bad
    · have hbad : bad = true := by
        rcases hb with hb | hb | hb
        · omega
        · rw [hx] at hb; cases hb
        · exact hb
      subst hbad
      rcases hc.2 hx with rfl | rfl
      · refine Ev_run t_code_Read_1 rfl rfl ?_
        simp (maxSteps := 1000000) (disch := first | omega | (simp only [lens, List.length_map]; omega)) only [go_sem, ↓reduceIte, Nat.reduceSub, Nat.reduceAdd, Nat.reduceMul, Nat.reduceLeDiff, Nat.reduceLT, Nat.reduceEqDiff, Nat.reduceBEq, Int.reduceLE, Int.reduceLT, Int.reduceEq, Int.reduceNeg, Int.reduceAdd, Int.reduceSub, Int.reduceMul, Int.reduceToNat, i_code_Read_1, h1, h2, h3, h4, hd1]
      · refine Ev_run t_code_Read_1 rfl rfl ?_
        simp (maxSteps := 1000000) (disch := first | omega | (simp only [lens, List.length_map]; omega)) only [go_sem, ↓reduceIte, Nat.reduceSub, Nat.reduceAdd, Nat.reduceMul, Nat.reduceLeDiff, Nat.reduceLT, Nat.reduceEqDiff, Nat.reduceBEq, Int.reduceLE, Int.reduceLT, Int.reduceEq, Int.reduceNeg, Int.reduceAdd, Int.reduceSub, Int.reduceMul, Int.reduceToNat, i_code_Read_1, h1, h2, h3, h4, hd1]
    · rw [hc.1 hx] at h4
      refine Ev_run t_code_Read_1 rfl rfl ?_
      simp (maxSteps := 1000000) (disch := first | omega | (simp only [lens, List.length_map]; omega)) only [go_sem, ↓reduceIte, Nat.reduceSub, Nat.reduceAdd, Nat.reduceMul, Nat.reduceLeDiff, Nat.reduceLT, Nat.reduceEqDiff, Nat.reduceBEq, Int.reduceLE, Int.reduceLT, Int.reduceEq, Int.reduceNeg, Int.reduceAdd, Int.reduceSub, Int.reduceMul, Int.reduceToNat, i_code_Read_1, h1, h2, h3, h4, hd1]

end Go.Proofs.Ytkfaahjcncpmhaa
