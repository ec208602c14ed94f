/-
  Trees as bytes, or what is amiss.
-/
import Derived.Test.YtkfaahjcncpmhaaLCodeW
set_option linter.unusedSimpArgs false
set_option linter.unusedVariables false
set_option maxRecDepth 200000
set_option maxHeartbeats 4000000
namespace Go.Proofs.Ytkfaahjcncpmhaa
open Go.Ev

def wrC (t : T) : Int := if ¬ t.chk = 0 then t.chk else if t.long = true then 2 else 0
theorem wrC_cases (t : T) : wrC t = 0 ∨ wrC t = 2 ∨ wrC t = 3 ∨ wrC t = 5 := by
  have := chk_cases t
  unfold wrC
  split
  · omega
  · split <;> omega
def wrB (t : T) : List UInt8 := if wrC t = 0 then t.wr else []
theorem wrC_bad {t : T} (h : ¬ t.chk = 0) : wrC t = t.chk := by unfold wrC; rw [if_pos h]
theorem wrC_long {t : T} (h : t.chk = 0) (hg : t.long = true) : wrC t = 2 := by unfold wrC; rw [if_neg (fun x => x h), if_pos hg]
theorem wrC_good {t : T} (h : t.chk = 0) (hg : t.long = false) : wrC t = 0 := by unfold wrC; rw [if_neg (fun x => x h), hg, if_neg (by simp)]
theorem wrB_good {t : T} (h : wrC t = 0) : wrB t = t.wr := if_pos h
theorem wrB_bad {t : T} (h : ¬ wrC t = 0) : wrB t = [] := if_neg h
theorem code_Write_ev (t : T) (hs : t.size ≤ 1048576) : Ev tab G0 n_code_Write [avT t] [] = some ([.sl true (eB (wrB t)), errV (wrC t)], []) := by
  have h1 := tree_Check_ev t hs
  have h2 := code_long_ev t hs
  by_cases hc : t.chk = 0
  · have hf := chk_formed hc
    have h3 := cwrite_nil t hf hs
    have hl := wr_len t hf
    rw [hc, errV, if_pos rfl] at h1
    cases hg : t.long
    · rw [hg] at h2
      have hw := wrC_good hc hg
      rw [wrB_good hw, hw, errV, if_pos rfl]
      generalize t.wr = w at *
      refine Ev_run t_code_Write rfl rfl ?_
      simp (maxSteps := 1000000) (disch := first | omega | (simp only [lens, List.length_map]; omega)) only [go_sem, ↓reduceIte, Nat.reduceSub, Nat.reduceAdd, Nat.reduceMul, Nat.reduceLeDiff, Nat.reduceLT, Nat.reduceEqDiff, Nat.reduceBEq, Int.reduceLE, Int.reduceLT, Int.reduceEq, Int.reduceNeg, Int.reduceAdd, Int.reduceSub, Int.reduceMul, Int.reduceToNat, i_code_Write, h1, h2, h3]
    · rw [hg] at h2
      have hw := wrC_long hc hg
      rw [wrB_bad (by omega), hw, errV, if_neg (by decide)]
      refine Ev_run t_code_Write rfl rfl ?_
      simp (maxSteps := 1000000) (disch := first | omega | (simp only [lens, List.length_map]; omega)) only [go_sem, ↓reduceIte, Nat.reduceSub, Nat.reduceAdd, Nat.reduceMul, Nat.reduceLeDiff, Nat.reduceLT, Nat.reduceEqDiff, Nat.reduceBEq, Int.reduceLE, Int.reduceLT, Int.reduceEq, Int.reduceNeg, Int.reduceAdd, Int.reduceSub, Int.reduceMul, Int.reduceToNat, i_code_Write, h1, h2]
  · rw [errV, if_neg hc] at h1
    have hw := wrC_bad hc
    rw [wrB_bad (by omega), hw, errV, if_neg hc]
    refine Ev_run t_code_Write rfl rfl ?_
    simp (maxSteps := 1000000) (disch := first | omega | (simp only [lens, List.length_map]; omega)) only [go_sem, ↓reduceIte, Nat.reduceSub, Nat.reduceAdd, Nat.reduceMul, Nat.reduceLeDiff, Nat.reduceLT, Nat.reduceEqDiff, Nat.reduceBEq, Int.reduceLE, Int.reduceLT, Int.reduceEq, Int.reduceNeg, Int.reduceAdd, Int.reduceSub, Int.reduceMul, Int.reduceToNat, i_code_Write, h1]
end Go.Proofs.Ytkfaahjcncpmhaa
