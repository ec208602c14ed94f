/-
  Trees out of bytes: the document's, any.
-/
import Derived.Test.YtkfaahjcncpmhaaLCodeF
set_option linter.unusedSimpArgs false
set_option linter.unusedVariables false
set_option maxRecDepth 200000
set_option maxHeartbeats 4000000
namespace Go.Proofs.Ytkfaahjcncpmhaa
open Go.Ev

theorem spoil_ok {r : Rf} (h : r.ok) : r.spoil.ok := h
theorem rfT_x0 {r : Rf} (h : 0 < r.kd ∧ ¬ r.kd = 3) : rfT 0 r = (.mk r.kd [] [] [] [], r.byte.2.spoil) := by unfold rfT; rw [if_pos h]
theorem rfT_x {r : Rf} {d : Nat} (h : 3 < r.kd) : rfT d r = (.mk r.kd [] [] [] [], r.byte.2.spoil) := by
  cases d with
  | zero => unfold rfT; rw [if_pos (by omega)]
  | succ d => unfold rfT; rw [if_pos h]
theorem rfT_0 {r : Rf} {d : Nat} (h : r.kd = 0) : rfT d r = (.mk r.kd [] [] [] [], r.byte.2) := by
  cases d with
  | zero => unfold rfT; rw [if_neg (by omega), if_pos (.inr h)]
  | succ d => unfold rfT; rw [if_neg (by omega), if_pos (.inr h)]
theorem rfT_3 {r : Rf} {d : Nat} (h : r.kd = 3) (hx : r.byte.2.bad = false) : rfT d r = hdF r := by
  have hn : ¬ (r.byte.2.bad = true ∨ r.kd = 0) := by rw [hx, h]; simp
  cases d with
  | zero => unfold rfT; rw [if_neg (by omega), if_neg hn]
  | succ d => unfold rfT; rw [if_neg (by omega), if_neg hn, if_pos (.inl h)]
theorem rfT_b {r : Rf} {d : Nat} (h : r.kd = 1 ∨ r.kd = 2) (hx : r.byte.2.bad = false) (hb : (hdF r).2.bad = true) : rfT (d + 1) r = hdF r := by
  have hn : ¬ (r.byte.2.bad = true ∨ r.kd = 0) := by rw [hx]; simp; omega
  rw [rfT, if_neg (by omega), if_neg hn, if_pos (.inr hb)]
theorem rfT_d {r : Rf} {d : Nat} (h : r.kd = 1 ∨ r.kd = 2) (hx : r.byte.2.bad = false) (hb : (hdF r).2.bad = false) : rfT (d + 1) r = ((hdF r).1.with [(rfT d (hdF r).2).1, (rfT d (rfT d (hdF r).2).2).1], (rfT d (rfT d (hdF r).2).2).2) := by
  have hn : ¬ (r.byte.2.bad = true ∨ r.kd = 0) := by rw [hx]; simp; omega
  rw [rfT, if_neg (by omega), if_neg hn, if_neg (by rw [hb]; simp; omega)]
theorem fbyte_bad {r : Rf} (h : r.byte.2.bad = true) : r.kd = 0 := by
  revert h
  unfold Rf.kd Rf.byte
  split
  · exact fun _ => rfl
  · split
    · exact fun _ => rfl
    · intro h; cases h
theorem fread_ev : ∀ (d : Nat), d ≤ 64 → ∀ r : Rf, r.ok → Ev tab G0 n_ref10_read [.ptr 0 0, i64 d] [fO r] = some ([avT (rfT d r).1], [fO (rfT d r).2]) ∧ (rfT d r).2.ok := fun d => by
  induction d with
  | zero =>
    intro hd r h
    have hb := r.kd_le
    by_cases hx : 0 < r.kd ∧ ¬ r.kd = 3
    · rw [rfT_x0 hx]
      exact ⟨fread_x 0 hd r h (by omega), r.byte_ok h⟩
    · by_cases h0 : r.kd = 0
      · rw [rfT_0 h0]
        exact ⟨fread_0 0 hd r h h0, r.byte_ok h⟩
      · have hy : r.byte.2.bad = false := by
          cases e : r.byte.2.bad
          · rfl
          · exact absurd (fbyte_bad e) h0
        rw [rfT_3 (by omega) hy]
        exact ⟨fread_3 0 hd r h (by omega) hy, hdF_ok r h⟩
  | succ d ih =>
    intro hd r h
    have ih := ih (by omega)
    have hb := r.kd_le
    by_cases hx : 3 < r.kd
    · rw [rfT_x hx]
      exact ⟨fread_x (d + 1) hd r h (.inl hx), r.byte_ok h⟩
    · by_cases h0 : r.kd = 0
      · rw [rfT_0 h0]
        exact ⟨fread_0 (d + 1) hd r h h0, r.byte_ok h⟩
      · have hy : r.byte.2.bad = false := by
          cases e : r.byte.2.bad
          · rfl
          · exact absurd (fbyte_bad e) h0
        by_cases h3 : r.kd = 3
        · rw [rfT_3 h3 hy]
          exact ⟨fread_3 (d + 1) hd r h h3 hy, hdF_ok r h⟩
        · have k1 := ih _ (hdF_ok r h)
          cases hz : (hdF r).2.bad
          · rw [rfT_d (by omega) hy hz]
            refine ⟨?_, (ih _ k1.2).2⟩
            by_cases h1 : r.kd = 1
            · exact fread_d1 d hd ih r h h1 hy hz
            · exact fread_d2 d hd ih r h (by omega) hy hz
          · rw [rfT_b (by omega) hy hz]
            refine ⟨?_, hdF_ok r h⟩
            by_cases h1 : r.kd = 1
            · exact fread_b1 d hd r h h1 hy hz
            · exact fread_b2 d hd r h (by omega) hy hz
/-- What is amiss with bytes, and their tree. -/
def rfR (b : List UInt8) : T × Rf := rfT 64 ⟨b, 0, false⟩
def rfC (b : List UInt8) : Int := (rfR b).2.fin
def rfV (b : List UInt8) : T := if rfC b = 0 then (rfR b).1 else .no
theorem fRead_ev (b : List UInt8) (h : b.length ≤ 1048576) : Ev tab G0 n_ref10_Read [.sl true (eB b)] [] = some ([avT (rfV b), i64 (rfC b)], []) := by
  obtain ⟨h2, hk⟩ := fread_ev 64 (by omega) ⟨b, 0, false⟩ ⟨by simp only; omega, by simp only; omega⟩
  have h3 := ref02_End_ev (rfR b).2 hk
  have e64 : ((64 : Nat) : Int) = 64 := rfl
  have e0 : ((0 : Nat) : Int) = 0 := rfl
  rw [e64] at h2
  change Ev tab G0 n_ref10_read [.ptr 0 0, i64 64] [.var [.sl true (eB b), i64 0, bo false]] = some ([avT (rfR b).1], [fO (rfR b).2]) at h2
  unfold rfV rfC
  generalize rfR b = p at *
  obtain ⟨t, r⟩ := p
  simp only at *
  generalize r.fin = c at *
  by_cases hc : c = 0
  · subst hc
    rw [if_pos rfl]
    refine Ev_run t_ref10_Read rfl rfl ?_
    simp (maxSteps := 1000000) (disch := first | omega | (simp only [lens, List.length_map]; omega)) only [go_sem, ↓reduceIte, Nat.reduceSub, Nat.reduceAdd, Nat.reduceMul, Nat.reduceLeDiff, Nat.reduceLT, Nat.reduceEqDiff, Nat.reduceBEq, Int.reduceLE, Int.reduceLT, Int.reduceEq, Int.reduceNeg, Int.reduceAdd, Int.reduceSub, Int.reduceMul, Int.reduceToNat, i_ref10_Read, h2, h3]
  · rw [if_neg hc, show avT T.no = .agg [i64 0, .sl true [], .sl true [], .sl true [], .sl true []] from rfl]
    refine Ev_run t_ref10_Read rfl rfl ?_
    simp (maxSteps := 1000000) (disch := first | omega | (simp only [lens, List.length_map]; omega)) only [go_sem, ↓reduceIte, Nat.reduceSub, Nat.reduceAdd, Nat.reduceMul, Nat.reduceLeDiff, Nat.reduceLT, Nat.reduceEqDiff, Nat.reduceBEq, Int.reduceLE, Int.reduceLT, Int.reduceEq, Int.reduceNeg, Int.reduceAdd, Int.reduceSub, Int.reduceMul, Int.reduceToNat, i_ref10_Read, h2, h3]

end Go.Proofs.Ytkfaahjcncpmhaa
