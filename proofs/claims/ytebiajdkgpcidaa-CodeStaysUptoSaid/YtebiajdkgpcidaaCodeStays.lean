/-
  What is handed in stays as it is; a tree that was read stays: the law.
-/
import Derived.Test.YtebiajdkgpcidaaLRead1
import Derived.Test.YtebiajdkgpcidaaLCopy5
set_option linter.unusedSimpArgs false
set_option linter.unusedVariables false
set_option maxRecDepth 200000
set_option maxHeartbeats 4000000
namespace Go.Proofs.Ytebiajdkgpcidaa
open Go.Ev

theorem cstay_loop (t u : T) (b : List UInt8) (e : AV) (he : e.refs = [] ∧ e.age true = e) (s : Bool) : ∀ (n i : Nat) (l : List UInt8), n + i = l.length → l.length ≤ 5000 → L_law10_CodeStays_0 (s_law10_CodeStays_K0 (.sl true (eB b)) (.ptr 0 0) (bo true) (.row 1 l.length) (.ptr 2 0) e (bo s) (i64 i) [some (oT t), some (rowB1 l), some (oT u), none, none]) = some (.exit 0, s_law10_CodeStays_J0 (.sl true (eB b)) (.ptr 0 0) (bo true) (.ptr 2 0) e (bo s) [some (oT t), none, some (oT u), none, none])
  | 0, i, l, h, hb => by
    rw [L_law10_CodeStays_0_eq]
    simp (maxSteps := 1000000) (disch := first | omega | (simp only [List.length_cons, List.length_nil, List.length_append, List.length_map, List.length_take, List.length_drop]; omega)) only [go_sem, ↓reduceIte, Nat.reduceSub, Nat.reduceAdd, Nat.reduceMul, Nat.reduceLeDiff, Nat.reduceLT, Nat.reduceEqDiff, Nat.reduceBEq, Int.reduceLE, Int.reduceLT, Int.reduceEq, Int.reduceNeg, Int.reduceAdd, Int.reduceSub, Int.reduceMul, Int.reduceToNat, i_law10_CodeStays_b0, he.1, he.2]
  | n + 1, i, l, h, hb => by
    have ih := cstay_loop t u b e he s n (i + 1) (l.set i (byt (((l.getD i 0).toNat : Int) + 1))) (by rw [List.length_set]; omega) (by rw [List.length_set]; omega)
    rw [List.length_set] at ih
    rw [L_law10_CodeStays_0_eq]
    generalize hd : l.getD i 0 = x at *
    have hx := x.toNat_lt
    generalize hq : l.set i (byt ((x.toNat : Int) + 1)) = q at *
    try simp (maxSteps := 1000000) (disch := first | omega | (simp only [List.length_cons, List.length_nil, List.length_append, List.length_map, List.length_take, List.length_drop]; omega)) only [go_sem, ↓reduceIte, Nat.reduceSub, Nat.reduceAdd, Nat.reduceMul, Nat.reduceLeDiff, Nat.reduceLT, Nat.reduceEqDiff, Nat.reduceBEq, Int.reduceLE, Int.reduceLT, Int.reduceEq, Int.reduceNeg, Int.reduceAdd, Int.reduceSub, Int.reduceMul, Int.reduceToNat, he.1, he.2] at ih
    simp (maxSteps := 1000000) (disch := first | omega | (simp only [List.length_cons, List.length_nil, List.length_append, List.length_map, List.length_take, List.length_drop]; omega)) only [go_sem, ↓reduceIte, Nat.reduceSub, Nat.reduceAdd, Nat.reduceMul, Nat.reduceLeDiff, Nat.reduceLT, Nat.reduceEqDiff, Nat.reduceBEq, Int.reduceLE, Int.reduceLT, Int.reduceEq, Int.reduceNeg, Int.reduceAdd, Int.reduceSub, Int.reduceMul, Int.reduceToNat, i_law10_CodeStays_b0, he.1, he.2, hd, hq, ih]
theorem law_CodeStays (b : List UInt8) (t : T) (hb : b.length ≤ 1048576) (hs : t.size ≤ 1048576) : ∃ outs, Ev tab G0 n_law10_CodeStays [.sl true (eB b), avT t] [] = some ([bo true], outs) := by
  have h0 := up10_ev
  have h1 := small10_ev t hs
  refine ⟨[], Ev_run t_law10_CodeStays rfl rfl ?_⟩
  cases hl : decide (0 ≤ t.light 300 200)
  · rw [hl] at h1
    simp (maxSteps := 1000000) (disch := first | omega | (simp only [List.length_cons, List.length_nil, List.length_append, List.length_map, List.length_take, List.length_drop]; omega)) only [go_sem, ↓reduceIte, Nat.reduceSub, Nat.reduceAdd, Nat.reduceMul, Nat.reduceLeDiff, Nat.reduceLT, Nat.reduceEqDiff, Nat.reduceBEq, Int.reduceLE, Int.reduceLT, Int.reduceEq, Int.reduceNeg, Int.reduceAdd, Int.reduceSub, Int.reduceMul, Int.reduceToNat, i_law10_CodeStays, h0, h1]
  · rw [hl] at h1
    by_cases hb5 : 5000 < b.length
    · simp (maxSteps := 1000000) (disch := first | omega | (simp only [List.length_cons, List.length_nil, List.length_append, List.length_map, List.length_take, List.length_drop]; omega)) only [go_sem, ↓reduceIte, Nat.reduceSub, Nat.reduceAdd, Nat.reduceMul, Nat.reduceLeDiff, Nat.reduceLT, Nat.reduceEqDiff, Nat.reduceBEq, Int.reduceLE, Int.reduceLT, Int.reduceEq, Int.reduceNeg, Int.reduceAdd, Int.reduceSub, Int.reduceMul, Int.reduceToNat, i_law10_CodeStays, h0, h1]
    · have h2 := code_Read_row b hb
      have h3 := code_Read_v1 b hb
      have hsz := rdV_sz b
      have h4 := ref04_Copy_ev t hs
      have h5 := code_Write_ev t hs
      have h6 := ref04_Same_self t hs
      have h7 := ref04_Same_self (rdV b) (by omega)
      have hc : rdC b = 0 ∨ rdC b = 3 ∨ rdC b = 4 := by
        unfold rdC
        split
        · exact .inr (.inl rfl)
        · unfold Rd.fin
          split
          · exact .inr (.inl rfl)
          · split
            · exact .inr (.inr rfl)
            · exact .inl rfl
      have h8 := law00_Code_ev (rdC b) (by omega)
      have hbb : (b == b) = true := beq_self_eq_true _
      have hen := cstay_loop t (rdV b) b (errV (rdC b)) ⟨errV_refs _, errV_age _⟩ true b.length 0 b (by omega) (by omega)
      have e0 : ((0 : Nat) : Int) = 0 := rfl
      rw [e0] at hen
      generalize wrB t = w at *
      generalize errV (wrC t) = we at *
      generalize rdV b = u at *
      generalize rdC b = c at *
      by_cases h0c : c = 0
      · subst h0c
        have e : errV 0 = .s .nilIface := if_pos rfl
        rw [e] at h2 h3 h8 hen
        simp (maxSteps := 1000000) (disch := first | omega | (simp only [List.length_cons, List.length_nil, List.length_append, List.length_map, List.length_take, List.length_drop]; omega)) only [go_sem, ↓reduceIte, Nat.reduceSub, Nat.reduceAdd, Nat.reduceMul, Nat.reduceLeDiff, Nat.reduceLT, Nat.reduceEqDiff, Nat.reduceBEq, Int.reduceLE, Int.reduceLT, Int.reduceEq, Int.reduceNeg, Int.reduceAdd, Int.reduceSub, Int.reduceMul, Int.reduceToNat, i_law10_CodeStays, h0, h1, h2, h3, h4, h5, h6, h7, h8, hen, hbb]
      · have e : errV c = errA c := if_neg h0c
        rw [e] at h2 h3 h8 hen
        simp (maxSteps := 1000000) (disch := first | omega | (simp only [List.length_cons, List.length_nil, List.length_append, List.length_map, List.length_take, List.length_drop]; omega)) only [go_sem, ↓reduceIte, Nat.reduceSub, Nat.reduceAdd, Nat.reduceMul, Nat.reduceLeDiff, Nat.reduceLT, Nat.reduceEqDiff, Nat.reduceBEq, Int.reduceLE, Int.reduceLT, Int.reduceEq, Int.reduceNeg, Int.reduceAdd, Int.reduceSub, Int.reduceMul, Int.reduceToNat, i_law10_CodeStays, h0, h1, h2, h3, h4, h5, h6, h7, h8, hen, hbb]

end Go.Proofs.Ytebiajdkgpcidaa
