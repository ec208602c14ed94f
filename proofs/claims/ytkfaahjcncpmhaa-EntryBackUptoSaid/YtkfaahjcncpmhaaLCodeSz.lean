/-
  Trees out of bytes: how much they are; the law.
-/
import Derived.Test.YtkfaahjcncpmhaaLCodeSim
import Derived.Test.YtkfaahjcncpmhaaLCodeUp
set_option linter.unusedSimpArgs false
set_option linter.unusedVariables false
set_option maxRecDepth 200000
set_option maxHeartbeats 4000000
namespace Go.Proofs.Ytkfaahjcncpmhaa
open Go.Ev

theorem take_sz {r : Rd} {n : Int} (h : (r.take n).2.bad = false) : (r.take n).1.length + (r.take n).2.b.length ≤ r.b.length ∧ r.bad = false := by
  unfold Rd.take at *
  split at h
  · cases h
  · rename_i hb
    split at h
    · cases h
    · rename_i hl
      rw [if_neg hb, if_neg hl]
      simp only [List.length_take, List.length_drop]
      exact ⟨by omega, by simpa using hb⟩
theorem byte_sz {r : Rd} (h : r.byte.2.bad = false) : r.byte.2.b.length + 1 ≤ r.b.length ∧ r.bad = false := by
  unfold Rd.byte Rd.take at *
  split at h
  · cases h
  · rename_i hb
    split at h
    · cases h
    · rename_i hl
      rw [if_neg hb, if_neg hl]
      simp only [List.length_drop]
      exact ⟨by omega, by simpa using hb⟩
theorem num_nb {r : Rd} (h : r.num.2.bad = false) : r.bad = false := by
  cases hb : r.bad
  · rfl
  · obtain ⟨h1, h2⟩ := kd_bad hb
    have e : r.byte.1.toNat = 0 := by unfold Rd.kd at h1; omega
    unfold Rd.num at h
    simp only [e] at h
    rw [if_pos (by omega)] at h
    simp only at h
    rw [h2] at h
    cases h
theorem bytes_sz {r : Rd} {m : Int} (h : (r.bytes m).2.bad = false) : (r.bytes m).1.length + (r.bytes m).2.b.length ≤ r.b.length ∧ r.bad = false := by
  have hn := r.num_le
  have hb : r.num.2.bad = false → r.bad = false := num_nb
  simp only [Rd.bytes] at *
  split at h
  · cases h
  · rename_i hc
    rw [if_neg hc]
    have := take_sz h
    exact ⟨by omega, hb this.2⟩
theorem hdT_sz {r : Rd} (h : (hdT r).2.bad = false) : (hdT r).1.size + (hdT r).2.b.length ≤ r.b.length ∧ (hdT r).1.kids = [] ∧ r.bad = false := by
  by_cases k3 : r.kd = 3
  · rw [hdT_3 k3] at *
    have h1 := bytes_sz h
    have h2 := byte_sz h1.2
    simp only [T.size, sizeL, List.length_nil, T_kids] at *
    exact ⟨by omega, trivial, h2.2⟩
  · by_cases k1 : r.kd = 1
    · rw [hdT_1 k1] at *
      have h1 := bytes_sz h
      have h2 := bytes_sz h1.2
      have h3 := byte_sz h2.2
      simp only [T.size, sizeL, List.length_nil, T_kids] at *
      exact ⟨by omega, trivial, h3.2⟩
    · by_cases k2 : r.kd = 2
      · rw [hdT_2 k2] at *
        have h1 := bytes_sz h
        have h2 := bytes_sz h1.2
        have h3 := byte_sz h2.2
        simp only [T.size, sizeL, List.length_nil, T_kids] at *
        exact ⟨by omega, trivial, h3.2⟩
      · rw [hdT_x k3 k1 k2] at *
        have h3 := byte_sz h
        simp only [T.size, sizeL, List.length_nil, T_kids] at *
        exact ⟨by omega, trivial, h3.2⟩
theorem with_sz {t a b : T} (h : t.kids = []) : (t.with [a, b]).size = t.size + (a.size + b.size) := by
  have := size_eq t
  rw [h] at this
  simp only [T.with, T.size, sizeL] at *
  omega
theorem rdT_sz : ∀ (d : Nat) (r : Rd) (bad : Bool), (rdT d r bad).2.1.bad = false → (rdT d r bad).1.size + (rdT d r bad).2.1.b.length ≤ r.b.length := fun d => by
  induction d with
  | zero =>
    intro r bad h
    by_cases h0 : r.kd = 0 ∨ r.kd = 3
    · rw [rdT_z 0 bad h0] at *
      exact (hdT_sz h).1
    · rw [rdT_x 0 bad h0 (.inl rfl)] at *
      exact (hdT_sz h).1
  | succ d ih =>
    intro r bad h
    by_cases h0 : r.kd = 0 ∨ r.kd = 3
    · rw [rdT_z (d + 1) bad h0] at *
      exact (hdT_sz h).1
    · by_cases h1 : (¬ r.kd = 1 ∧ ¬ r.kd = 2) ∨ (hdT r).2.bad = true ∨ bad = true
      · rw [rdT_x (d + 1) bad h0 (.inr h1)] at *
        exact (hdT_sz h).1
      · rw [rdT_d d bad h0 h1] at *
        simp only at h ⊢
        have hx : (hdT r).2.bad = false := by
          cases e : (hdT r).2.bad
          · rfl
          · exact absurd (.inr (.inl e)) h1
        have hp : (rdT d (hdT r).2 bad).2.1.bad = false := by
          cases e : (rdT d (hdT r).2 bad).2.1.bad
          · rfl
          · rw [rdT_rbad d _ _ e] at h
            cases h
        have a1 := hdT_sz hx
        have a2 := ih _ _ hp
        have a3 := ih _ _ h
        rw [with_sz a1.2.1]
        omega
theorem rdV_sz (b : List UInt8) : (rdV b).size ≤ b.length + 1 := by
  unfold rdV
  split
  · rename_i hc
    unfold rdC at hc
    have hb : (rdR b).2.1.bad = false := by
      split at hc
      · cases hc
      · unfold Rd.fin at hc
        cases e : (rdR b).2.1.bad
        · rfl
        · rw [if_pos e] at hc
          cases hc
    have := rdT_sz 64 ⟨b, false⟩ false hb
    change (rdR b).1.size + _ ≤ b.length at this
    omega
  · have : T.no.size = 1 := rfl
    omega
end Go.Proofs.Ytkfaahjcncpmhaa
