/-
  Trees as bytes, or what is amiss.
-/
import Derived.Test.YtkfaahjcncpmhaaLCodeW
import Derived.KernelRfl
import Derived.Test.YtkfaahjcncpmhaaLCodeSim
set_option linter.unusedSimpArgs false
set_option linter.unusedVariables false
set_option maxRecDepth 200000
set_option maxHeartbeats 4000000
namespace Go.Proofs.Ytkfaahjcncpmhaa
open Go.Ev

def wrC (t : T) : Int := if ¬ t.chk = 0 then t.chk else if t.long = true then 2 else 0
theorem wrC_cases (t : T) : wrC t = 0 ∨ wrC t = 2 ∨ wrC t = 3 ∨ wrC t = 5 := by
  have := chk_cases t
  unfold wrC
  split
  · omega
  · split <;> omega
def wrB (t : T) : List UInt8 := if wrC t = 0 then t.wr else []
theorem wrC_bad {t : T} (h : ¬ t.chk = 0) : wrC t = t.chk := by unfold wrC; rw [if_pos h]
theorem wrC_long {t : T} (h : t.chk = 0) (hg : t.long = true) : wrC t = 2 := by unfold wrC; rw [if_neg (fun x => x h), if_pos hg]
theorem wrC_good {t : T} (h : t.chk = 0) (hg : t.long = false) : wrC t = 0 := by unfold wrC; rw [if_neg (fun x => x h), hg, if_neg (by simp)]
theorem wrB_good {t : T} (h : wrC t = 0) : wrB t = t.wr := if_pos h
theorem wrB_bad {t : T} (h : ¬ wrC t = 0) : wrB t = [] := if_neg h
theorem code_Write_ev (t : T) (hs : t.size ≤ 1048576) : Ev tab G0 n_code_Write [avT t] [] = some ([.sl true (eB (wrB t)), errV (wrC t)], []) := by
  have h1 := tree_Check_ev t hs
  have h2 := code_long_ev t hs
  by_cases hc : t.chk = 0
  · have hf := chk_formed hc
    have h3 := cwrite_nil t hf hs
    have hl := wr_len t hf
    rw [hc, errV, if_pos rfl] at h1
    cases hg : t.long
    · rw [hg] at h2
      have hw := wrC_good hc hg
      rw [wrB_good hw, hw, errV, if_pos rfl]
      generalize t.wr = w at *
      refine Ev_run t_code_Write rfl rfl ?_
      simp (maxSteps := 1000000) (disch := first | omega | (simp only [lens, List.length_map]; omega)) only [go_sem, ↓reduceIte, Nat.reduceSub, Nat.reduceAdd, Nat.reduceMul, Nat.reduceLeDiff, Nat.reduceLT, Nat.reduceEqDiff, Nat.reduceBEq, Int.reduceLE, Int.reduceLT, Int.reduceEq, Int.reduceNeg, Int.reduceAdd, Int.reduceSub, Int.reduceMul, Int.reduceToNat, i_code_Write, h1, h2, h3]
    · rw [hg] at h2
      have hw := wrC_long hc hg
      rw [wrB_bad (by omega), hw, errV, if_neg (by decide)]
      refine Ev_run t_code_Write rfl rfl ?_
      simp (maxSteps := 1000000) (disch := first | omega | (simp only [lens, List.length_map]; omega)) only [go_sem, ↓reduceIte, Nat.reduceSub, Nat.reduceAdd, Nat.reduceMul, Nat.reduceLeDiff, Nat.reduceLT, Nat.reduceEqDiff, Nat.reduceBEq, Int.reduceLE, Int.reduceLT, Int.reduceEq, Int.reduceNeg, Int.reduceAdd, Int.reduceSub, Int.reduceMul, Int.reduceToNat, i_code_Write, h1, h2]
  · rw [errV, if_neg hc] at h1
    have hw := wrC_bad hc
    rw [wrB_bad (by omega), hw, errV, if_neg hc]
    refine Ev_run t_code_Write rfl rfl ?_
    simp (maxSteps := 1000000) (disch := first | omega | (simp only [lens, List.length_map]; omega)) only [go_sem, ↓reduceIte, Nat.reduceSub, Nat.reduceAdd, Nat.reduceMul, Nat.reduceLeDiff, Nat.reduceLT, Nat.reduceEqDiff, Nat.reduceBEq, Int.reduceLE, Int.reduceLT, Int.reduceEq, Int.reduceNeg, Int.reduceAdd, Int.reduceSub, Int.reduceMul, Int.reduceToNat, i_code_Write, h1]
theorem ref10_Write_ev (t : T) (hs : t.size ≤ 1048576) : Ev tab G0 n_ref10_Write [avT t] [] = some ([.sl true (eB (wrB t)), i64 (wrC t)], []) := by
  have h1 := ref04_Check_ev t hs
  have h2 := ref10_long_ev t hs
  by_cases hc : t.chk = 0
  · have hf := chk_formed hc
    have h3 := rbytes_ev t hf hs
    have hl := wr_len t hf
    rw [hc] at h1
    cases hg : t.long
    · rw [hg] at h2
      have hw := wrC_good hc hg
      rw [wrB_good hw, hw]
      generalize t.wr = w at *
      refine Ev_run t_ref10_Write rfl rfl ?_
      simp (maxSteps := 1000000) (disch := first | omega | (simp only [lens, List.length_map]; omega)) only [go_sem, ↓reduceIte, Nat.reduceSub, Nat.reduceAdd, Nat.reduceMul, Nat.reduceLeDiff, Nat.reduceLT, Nat.reduceEqDiff, Nat.reduceBEq, Int.reduceLE, Int.reduceLT, Int.reduceEq, Int.reduceNeg, Int.reduceAdd, Int.reduceSub, Int.reduceMul, Int.reduceToNat, i_ref10_Write, h1, h2, h3]
    · rw [hg] at h2
      have hw := wrC_long hc hg
      rw [wrB_bad (by omega), hw]
      refine Ev_run t_ref10_Write rfl rfl ?_
      simp (maxSteps := 1000000) (disch := first | omega | (simp only [lens, List.length_map]; omega)) only [go_sem, ↓reduceIte, Nat.reduceSub, Nat.reduceAdd, Nat.reduceMul, Nat.reduceLeDiff, Nat.reduceLT, Nat.reduceEqDiff, Nat.reduceBEq, Int.reduceLE, Int.reduceLT, Int.reduceEq, Int.reduceNeg, Int.reduceAdd, Int.reduceSub, Int.reduceMul, Int.reduceToNat, i_ref10_Write, h1, h2]
  · have hw := wrC_bad hc
    rw [wrB_bad (by omega), hw]
    refine Ev_run t_ref10_Write rfl rfl ?_
    simp (maxSteps := 1000000) (disch := first | omega | (simp only [lens, List.length_map]; omega)) only [go_sem, ↓reduceIte, Nat.reduceSub, Nat.reduceAdd, Nat.reduceMul, Nat.reduceLeDiff, Nat.reduceLT, Nat.reduceEqDiff, Nat.reduceBEq, Int.reduceLE, Int.reduceLT, Int.reduceEq, Int.reduceNeg, Int.reduceAdd, Int.reduceSub, Int.reduceMul, Int.reduceToNat, i_ref10_Write, h1]
end Go.Proofs.Ytkfaahjcncpmhaa
namespace Go.Proofs.Ytkfaahjcncpmhaa
open Go.Ev

end Go.Proofs.Ytkfaahjcncpmhaa
namespace Go.Proofs.Ytkfaahjcncpmhaa
open Go.Ev

theorem take_sz {r : Rd} {n : Int} (h : (r.take n).2.bad = false) : (r.take n).1.length + (r.take n).2.b.length ≤ r.b.length ∧ r.bad = false := by
  unfold Rd.take at *
  split at h
  · cases h
  · rename_i hb
    split at h
    · cases h
    · rename_i hl
      rw [if_neg hb, if_neg hl]
      simp only [List.length_take, List.length_drop]
      exact ⟨by omega, by simpa using hb⟩
theorem byte_sz {r : Rd} (h : r.byte.2.bad = false) : r.byte.2.b.length + 1 ≤ r.b.length ∧ r.bad = false := by
  unfold Rd.byte Rd.take at *
  split at h
  · cases h
  · rename_i hb
    split at h
    · cases h
    · rename_i hl
      rw [if_neg hb, if_neg hl]
      simp only [List.length_drop]
      exact ⟨by omega, by simpa using hb⟩
theorem num_nb {r : Rd} (h : r.num.2.bad = false) : r.bad = false := by
  cases hb : r.bad
  · rfl
  · obtain ⟨h1, h2⟩ := kd_bad hb
    have e : r.byte.1.toNat = 0 := by unfold Rd.kd at h1; omega
    unfold Rd.num at h
    simp only [e] at h
    rw [if_pos (by omega)] at h
    simp only at h
    rw [h2] at h
    cases h
theorem bytes_sz {r : Rd} {m : Int} (h : (r.bytes m).2.bad = false) : (r.bytes m).1.length + (r.bytes m).2.b.length ≤ r.b.length ∧ r.bad = false := by
  have hn := r.num_le
  have hb : r.num.2.bad = false → r.bad = false := num_nb
  simp only [Rd.bytes] at *
  split at h
  · cases h
  · rename_i hc
    rw [if_neg hc]
    have := take_sz h
    exact ⟨by omega, hb this.2⟩
theorem hdT_sz {r : Rd} (h : (hdT r).2.bad = false) : (hdT r).1.size + (hdT r).2.b.length ≤ r.b.length ∧ (hdT r).1.kids = [] ∧ r.bad = false := by
  by_cases k3 : r.kd = 3
  · rw [hdT_3 k3] at *
    have h1 := bytes_sz h
    have h2 := byte_sz h1.2
    simp only [T.size, sizeL, List.length_nil, T_kids] at *
    exact ⟨by omega, trivial, h2.2⟩
  · by_cases k1 : r.kd = 1
    · rw [hdT_1 k1] at *
      have h1 := bytes_sz h
      have h2 := bytes_sz h1.2
      have h3 := byte_sz h2.2
      simp only [T.size, sizeL, List.length_nil, T_kids] at *
      exact ⟨by omega, trivial, h3.2⟩
    · by_cases k2 : r.kd = 2
      · rw [hdT_2 k2] at *
        have h1 := bytes_sz h
        have h2 := bytes_sz h1.2
        have h3 := byte_sz h2.2
        simp only [T.size, sizeL, List.length_nil, T_kids] at *
        exact ⟨by omega, trivial, h3.2⟩
      · rw [hdT_x k3 k1 k2] at *
        have h3 := byte_sz h
        simp only [T.size, sizeL, List.length_nil, T_kids] at *
        exact ⟨by omega, trivial, h3.2⟩
theorem with_sz {t a b : T} (h : t.kids = []) : (t.with [a, b]).size = t.size + (a.size + b.size) := by
  have := size_eq t
  rw [h] at this
  simp only [T.with, T.size, sizeL] at *
  omega
theorem rdT_sz : ∀ (d : Nat) (r : Rd) (bad : Bool), (rdT d r bad).2.1.bad = false → (rdT d r bad).1.size + (rdT d r bad).2.1.b.length ≤ r.b.length := fun d => by
  induction d with
  | zero =>
    intro r bad h
    by_cases h0 : r.kd = 0 ∨ r.kd = 3
    · rw [rdT_z 0 bad h0] at *
      exact (hdT_sz h).1
    · rw [rdT_x 0 bad h0 (.inl rfl)] at *
      exact (hdT_sz h).1
  | succ d ih =>
    intro r bad h
    by_cases h0 : r.kd = 0 ∨ r.kd = 3
    · rw [rdT_z (d + 1) bad h0] at *
      exact (hdT_sz h).1
    · by_cases h1 : (¬ r.kd = 1 ∧ ¬ r.kd = 2) ∨ (hdT r).2.bad = true ∨ bad = true
      · rw [rdT_x (d + 1) bad h0 (.inr h1)] at *
        exact (hdT_sz h).1
      · rw [rdT_d d bad h0 h1] at *
        simp only at h ⊢
        have hx : (hdT r).2.bad = false := by
          cases e : (hdT r).2.bad
          · rfl
          · exact absurd (.inr (.inl e)) h1
        have hp : (rdT d (hdT r).2 bad).2.1.bad = false := by
          cases e : (rdT d (hdT r).2 bad).2.1.bad
          · rfl
          · rw [rdT_rbad d _ _ e] at h
            cases h
        have a1 := hdT_sz hx
        have a2 := ih _ _ hp
        have a3 := ih _ _ h
        rw [with_sz a1.2.1]
        omega
theorem rdV_sz (b : List UInt8) : (rdV b).size ≤ b.length + 1 := by
  unfold rdV
  split
  · rename_i hc
    unfold rdC at hc
    have hb : (rdR b).2.1.bad = false := by
      split at hc
      · cases hc
      · unfold Rd.fin at hc
        cases e : (rdR b).2.1.bad
        · rfl
        · rw [if_pos e] at hc
          cases hc
    have := rdT_sz 64 ⟨b, false⟩ false hb
    change (rdR b).1.size + _ ≤ b.length at this
    omega
  · have : T.no.size = 1 := rfl
    omega
end Go.Proofs.Ytkfaahjcncpmhaa
