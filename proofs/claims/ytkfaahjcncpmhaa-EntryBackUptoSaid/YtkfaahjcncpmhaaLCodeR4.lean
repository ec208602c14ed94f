/-
  Trees out of bytes: any.
-/
import Derived.Test.YtkfaahjcncpmhaaLCodeR2
import Derived.Test.YtkfaahjcncpmhaaLCodeR3
set_option linter.unusedSimpArgs false
set_option linter.unusedVariables false
set_option maxRecDepth 200000
set_option maxHeartbeats 4000000
namespace Go.Proofs.Ytkfaahjcncpmhaa
open Go.Ev

theorem read1_ev : ∀ (d : Nat), d ≤ 64 → ∀ (r : Rd) (bad : Bool), r.b.length ≤ 1073741824 → Ev tab G0 n_code_Read_1 [i64 d, .ptr 0 0, .ptr 2 0, .ptr 3 0] (insR r bad) = some ([avT (rdT d r bad).1], insR (rdT d r bad).2.1 (rdT d r bad).2.2) := fun d => by
  induction d with
  | zero =>
    intro hd r bad h
    have hb := r.kd_le
    by_cases h0 : r.kd = 0
    · rw [rdT_z 0 bad (.inl h0)]
      exact read1_0 0 hd r bad h h0
    · by_cases h3 : r.kd = 3
      · rw [rdT_z 0 bad (.inr h3)]
        exact read1_3 0 hd r bad h h3
      · rw [rdT_x 0 bad (by omega) (.inl rfl)]
        by_cases h1 : r.kd = 1
        · exact read1_bad1 0 hd r bad h h1 (.inl rfl)
        · by_cases h2 : r.kd = 2
          · exact read1_bad2 0 hd r bad h h2 (.inl rfl)
          · exact read1_x 0 hd r bad h (by omega)
  | succ d ih =>
    intro hd r bad h
    have ih := ih (by omega)
    have hb := r.kd_le
    by_cases h0 : r.kd = 0
    · rw [rdT_z (d + 1) bad (.inl h0)]
      exact read1_0 (d + 1) hd r bad h h0
    · by_cases h3 : r.kd = 3
      · rw [rdT_z (d + 1) bad (.inr h3)]
        exact read1_3 (d + 1) hd r bad h h3
      · by_cases hx : (hdT r).2.bad = true ∨ bad = true
        · rw [rdT_x (d + 1) bad (by omega) (.inr (.inr hx))]
          by_cases h1 : r.kd = 1
          · exact read1_bad1 (d + 1) hd r bad h h1 (.inr hx)
          · by_cases h2 : r.kd = 2
            · exact read1_bad2 (d + 1) hd r bad h h2 (.inr hx)
            · exact read1_x (d + 1) hd r bad h (by omega)
        · by_cases h1 : r.kd = 1
          · rw [rdT_d d bad (by omega) (fun hh => hh.elim (fun a => a.1 h1) hx)]
            have hb1 : bad = false := by cases bad <;> simp_all
            have hb2 : (hdT r).2.bad = false := by cases e : (hdT r).2.bad <;> simp_all
            subst hb1
            exact read1_good1 d hd ih r h h1 hb2
          · by_cases h2 : r.kd = 2
            · rw [rdT_d d bad (by omega) (fun hh => hh.elim (fun a => a.2 h2) hx)]
              have hb1 : bad = false := by cases bad <;> simp_all
              have hb2 : (hdT r).2.bad = false := by cases e : (hdT r).2.bad <;> simp_all
              subst hb1
              exact read1_good2 d hd ih r h h2 hb2
            · rw [rdT_x (d + 1) bad (by omega) (.inr (.inl ⟨h1, h2⟩))]
              exact read1_x (d + 1) hd r bad h (by omega)
/-- What is amiss with bytes, and their tree. -/
def rdR (b : List UInt8) : T × Rd × Bool := rdT 64 ⟨b, false⟩ false
def rdC (b : List UInt8) : Int := if (rdR b).2.2 = true then 3 else (rdR b).2.1.fin
def rdV (b : List UInt8) : T := if rdC b = 0 then (rdR b).1 else .no
theorem avT_no : avT T.no = .agg [i64 0, .sl true [], .sl true [], .sl true [], .sl true []] := rfl
theorem code_Read_ev (b : List UInt8) (h : b.length ≤ 1048576) : Ev tab G0 n_code_Read [.sl true (eB b)] [] = some ([avT (rdV b), errV (rdC b)], []) := by
  have h1 := coder_NewReader_ev b (by omega)
  have h2 := read1_ev 64 (by omega) ⟨b, false⟩ false (by simp only; omega)
  have hl := rdT_le 64 ⟨b, false⟩ false
  have h3 := coder_End_ev (rdR b).2.1 (Nat.le_trans hl (by simp only; omega))
  unfold rdV rdC
  have hf : (rdR b).2.1.fin = 3 ∨ (rdR b).2.1.fin = 4 ∨ (rdR b).2.1.fin = 0 := by
    unfold Rd.fin
    split
    · exact .inl rfl
    · split
      · exact .inr (.inl rfl)
      · exact .inr (.inr rfl)
  have e64 : ((64 : Nat) : Int) = 64 := rfl
  rw [e64] at h2
  change Ev tab G0 n_code_Read_1 _ _ = some ([avT (rdR b).1], insR (rdR b).2.1 (rdR b).2.2) at h2
  generalize rdR b = p at *
  obtain ⟨t, r, x⟩ := p
  simp only at *
  cases x
  · simp only [Bool.false_eq_true, if_false]
    rcases hf with hf | hf | hf
    · rw [hf, errV, if_neg (by decide)] at h3
      rw [hf, if_neg (by decide), errV, if_neg (by decide), avT_no]
      refine Ev_run t_code_Read rfl rfl ?_
      simp (maxSteps := 1000000) (disch := first | omega | (simp only [lens, List.length_map]; omega)) only [go_sem, ↓reduceIte, Nat.reduceSub, Nat.reduceAdd, Nat.reduceMul, Nat.reduceLeDiff, Nat.reduceLT, Nat.reduceEqDiff, Nat.reduceBEq, Int.reduceLE, Int.reduceLT, Int.reduceEq, Int.reduceNeg, Int.reduceAdd, Int.reduceSub, Int.reduceMul, Int.reduceToNat, i_code_Read, h1, h2, h3, lt_code_Read_1]
    · rw [hf, errV, if_neg (by decide)] at h3
      rw [hf, if_neg (by decide), errV, if_neg (by decide), avT_no]
      refine Ev_run t_code_Read rfl rfl ?_
      simp (maxSteps := 1000000) (disch := first | omega | (simp only [lens, List.length_map]; omega)) only [go_sem, ↓reduceIte, Nat.reduceSub, Nat.reduceAdd, Nat.reduceMul, Nat.reduceLeDiff, Nat.reduceLT, Nat.reduceEqDiff, Nat.reduceBEq, Int.reduceLE, Int.reduceLT, Int.reduceEq, Int.reduceNeg, Int.reduceAdd, Int.reduceSub, Int.reduceMul, Int.reduceToNat, i_code_Read, h1, h2, h3, lt_code_Read_1]
    · rw [hf, errV, if_pos rfl] at h3
      rw [hf, if_pos rfl, errV, if_pos rfl]
      refine Ev_run t_code_Read rfl rfl ?_
      simp (maxSteps := 1000000) (disch := first | omega | (simp only [lens, List.length_map]; omega)) only [go_sem, ↓reduceIte, Nat.reduceSub, Nat.reduceAdd, Nat.reduceMul, Nat.reduceLeDiff, Nat.reduceLT, Nat.reduceEqDiff, Nat.reduceBEq, Int.reduceLE, Int.reduceLT, Int.reduceEq, Int.reduceNeg, Int.reduceAdd, Int.reduceSub, Int.reduceMul, Int.reduceToNat, i_code_Read, h1, h2, h3, lt_code_Read_1]
  · simp only [if_true]
    rw [if_neg (by decide), errV, if_neg (by decide), avT_no]
    refine Ev_run t_code_Read rfl rfl ?_
    simp (maxSteps := 1000000) (disch := first | omega | (simp only [lens, List.length_map]; omega)) only [go_sem, ↓reduceIte, Nat.reduceSub, Nat.reduceAdd, Nat.reduceMul, Nat.reduceLeDiff, Nat.reduceLT, Nat.reduceEqDiff, Nat.reduceBEq, Int.reduceLE, Int.reduceLT, Int.reduceEq, Int.reduceNeg, Int.reduceAdd, Int.reduceSub, Int.reduceMul, Int.reduceToNat, i_code_Read, h1, h2, h3, lt_code_Read_1]

end Go.Proofs.Ytkfaahjcncpmhaa
