/-
  Trees out of bytes: the reader and the document's, side by side.
-/
import Derived.Test.YtkfaahjcncpmhaaLCodeF2
import Derived.Test.YtkfaahjcncpmhaaLCodeR4
set_option linter.unusedSimpArgs false
set_option linter.unusedVariables false
set_option maxRecDepth 200000
set_option maxHeartbeats 4000000
namespace Go.Proofs.Ytkfaahjcncpmhaa
open Go.Ev

def Rel (r : Rd) (bad : Bool) (w : Rf) : Prop := w.ok ∧ ((bad || r.bad) = w.bad) ∧ (w.bad = false → Sim r w)
theorem kd_bad {r : Rd} (h : r.bad = true) : r.kd = 0 ∧ r.byte.2.bad = true := by
  unfold Rd.kd Rd.byte Rd.take
  rw [if_pos h]
  exact ⟨rfl, rfl⟩
theorem fkd_bad {r : Rf} (h : r.bad = true) : r.kd = 0 ∧ r.byte.2.bad = true := by
  unfold Rf.kd Rf.byte
  rw [if_pos h]
  exact ⟨rfl, rfl⟩
theorem hdT_z {r : Rd} (h : r.kd = 0) : hdT r = (.mk r.kd [] [] [] [], r.byte.2) := hdT_x (by omega) (by omega) (by omega)
theorem rdT_bad : ∀ (d : Nat) (r : Rd), (rdT d r true).2.2 = true := fun d r => by
  by_cases h : r.kd = 0 ∨ r.kd = 3
  · rw [rdT_z d true h]
  · rw [rdT_x d true h (.inr (.inr (.inr rfl)))]
theorem rdT_rbad (d : Nat) (r : Rd) (bad : Bool) (h : r.bad = true) : (rdT d r bad).2.1.bad = true := by
  obtain ⟨h1, h2⟩ := kd_bad h
  rw [rdT_z d bad (.inl h1), hdT_z h1]
  exact h2
theorem rfT_bad (d : Nat) (r : Rf) (h : r.bad = true) : (rfT d r).2.bad = true := by
  obtain ⟨h1, h2⟩ := fkd_bad h
  rw [rfT_0 h1]
  exact h2
theorem sim_kd {r : Rd} {w : Rf} (h : Sim r w) : r.kd = w.kd := by
  unfold Rd.kd Rf.kd
  rw [(sim_byte h).1]
theorem sim_hd {r : Rd} {w : Rf} (h : Sim r w) : (hdT r).1 = (hdF w).1 ∧ Sim (hdT r).2 (hdF w).2 := by
  have hk := sim_kd h
  obtain ⟨_, h1, _⟩ := sim_byte h
  have h2 := sim_bytes h1 80
  by_cases k3 : r.kd = 3
  · rw [hdT_3 k3, hdF_3 (by omega)]
    have h3 := sim_bytes h1 32
    exact ⟨by rw [h3.1], h3.2⟩
  · by_cases k1 : r.kd = 1
    · rw [hdT_1 k1, hdF_1 (by omega)]
      have h3 := sim_bytes h2.2 1024
      exact ⟨by rw [h2.1, h3.1], h3.2⟩
    · by_cases k2 : r.kd = 2
      · rw [hdT_2 k2, hdF_2 (by omega)]
        have h3 := sim_bytes h2.2 32
        exact ⟨by rw [h2.1, h3.1], h3.2⟩
      · rw [hdT_x k3 k1 k2, hdF_x (by omega) (by omega) (by omega), hk]
        exact ⟨rfl, h1⟩
theorem Rel.bad {r : Rd} {bad : Bool} {w : Rf} (hw : w.ok) (h : bad = true ∨ r.bad = true) (hb : w.bad = true) : Rel r bad w := ⟨hw, by rw [hb]; rcases h with h | h <;> simp [h], fun h => by rw [hb] at h; cases h⟩
theorem Rel.good {r : Rd} {w : Rf} (h : Sim r w) : Rel r false w := ⟨h.1, by rw [Bool.false_or]; exact h.2.2.1, fun _ => h⟩
end Go.Proofs.Ytkfaahjcncpmhaa
