/-
  Trees out of bytes: the reader and the document's, side by side.
-/
import Derived.Test.YtkfaahjcncpmhaaLCodeF2
import Derived.Test.YtkfaahjcncpmhaaLCodeR4
set_option linter.unusedSimpArgs false
set_option linter.unusedVariables false
set_option maxRecDepth 200000
set_option maxHeartbeats 4000000
namespace Go.Proofs.Ytkfaahjcncpmhaa
open Go.Ev

def Rel (r : Rd) (bad : Bool) (w : Rf) : Prop := w.ok ∧ ((bad || r.bad) = w.bad) ∧ (w.bad = false → Sim r w)
theorem kd_bad {r : Rd} (h : r.bad = true) : r.kd = 0 ∧ r.byte.2.bad = true := by
  unfold Rd.kd Rd.byte Rd.take
  rw [if_pos h]
  exact ⟨rfl, rfl⟩
theorem fkd_bad {r : Rf} (h : r.bad = true) : r.kd = 0 ∧ r.byte.2.bad = true := by
  unfold Rf.kd Rf.byte
  rw [if_pos h]
  exact ⟨rfl, rfl⟩
theorem hdT_z {r : Rd} (h : r.kd = 0) : hdT r = (.mk r.kd [] [] [] [], r.byte.2) := hdT_x (by omega) (by omega) (by omega)
theorem rdT_bad : ∀ (d : Nat) (r : Rd), (rdT d r true).2.2 = true := fun d r => by
  by_cases h : r.kd = 0 ∨ r.kd = 3
  · rw [rdT_z d true h]
  · rw [rdT_x d true h (.inr (.inr (.inr rfl)))]
theorem rdT_rbad (d : Nat) (r : Rd) (bad : Bool) (h : r.bad = true) : (rdT d r bad).2.1.bad = true := by
  obtain ⟨h1, h2⟩ := kd_bad h
  rw [rdT_z d bad (.inl h1), hdT_z h1]
  exact h2
theorem rfT_bad (d : Nat) (r : Rf) (h : r.bad = true) : (rfT d r).2.bad = true := by
  obtain ⟨h1, h2⟩ := fkd_bad h
  rw [rfT_0 h1]
  exact h2
theorem sim_kd {r : Rd} {w : Rf} (h : Sim r w) : r.kd = w.kd := by
  unfold Rd.kd Rf.kd
  rw [(sim_byte h).1]
theorem sim_hd {r : Rd} {w : Rf} (h : Sim r w) : (hdT r).1 = (hdF w).1 ∧ Sim (hdT r).2 (hdF w).2 := by
  have hk := sim_kd h
  obtain ⟨_, h1, _⟩ := sim_byte h
  have h2 := sim_bytes h1 80
  by_cases k3 : r.kd = 3
  · rw [hdT_3 k3, hdF_3 (by omega)]
    have h3 := sim_bytes h1 32
    exact ⟨by rw [h3.1], h3.2⟩
  · by_cases k1 : r.kd = 1
    · rw [hdT_1 k1, hdF_1 (by omega)]
      have h3 := sim_bytes h2.2 1024
      exact ⟨by rw [h2.1, h3.1], h3.2⟩
    · by_cases k2 : r.kd = 2
      · rw [hdT_2 k2, hdF_2 (by omega)]
        have h3 := sim_bytes h2.2 32
        exact ⟨by rw [h2.1, h3.1], h3.2⟩
      · rw [hdT_x k3 k1 k2, hdF_x (by omega) (by omega) (by omega), hk]
        exact ⟨rfl, h1⟩
theorem Rel.bad {r : Rd} {bad : Bool} {w : Rf} (hw : w.ok) (h : bad = true ∨ r.bad = true) (hb : w.bad = true) : Rel r bad w := ⟨hw, by rw [hb]; rcases h with h | h <;> simp [h], fun h => by rw [hb] at h; cases h⟩
theorem Rel.good {r : Rd} {w : Rf} (h : Sim r w) : Rel r false w := ⟨h.1, by rw [Bool.false_or]; exact h.2.2.1, fun _ => h⟩
theorem sim_read : ∀ (d : Nat), d ≤ 64 → ∀ (r : Rd) (bad : Bool) (w : Rf), Rel r bad w → Rel (rdT d r bad).2.1 (rdT d r bad).2.2 (rfT d w).2 ∧ ((rfT d w).2.bad = false → (rdT d r bad).1 = (rfT d w).1) := fun d => by
  induction d with
  | zero =>
    intro hd r bad w h
    obtain ⟨hw, hb, hs⟩ := h
    have hwk := (fread_ev 0 hd w hw).2
    cases hwb : w.bad
    · have hs := hs hwb
      rw [hwb, Bool.or_eq_false_iff] at hb
      obtain ⟨rfl, hrb⟩ := hb
      have hk := sim_kd hs
      have hh := sim_hd hs
      have hle := r.kd_le
      by_cases h0 : r.kd = 0
      · rw [rdT_z 0 false (.inl h0), rfT_0 (by omega)]
        rw [hdT_z h0, hdF_x (by omega) (by omega) (by omega)] at hh
        rw [hdT_z h0]
        exact ⟨Rel.good hh.2, fun _ => hh.1⟩
      · by_cases h3 : r.kd = 3
        · have hy : w.byte.2.bad = false := by
            cases e : w.byte.2.bad
            · rfl
            · have := fbyte_bad e; omega
          rw [rdT_z 0 false (.inr h3), rfT_3 (by omega) hy]
          exact ⟨Rel.good hh.2, fun _ => hh.1⟩
        · rw [rdT_x 0 false (by omega) (.inl rfl)]
          rw [rfT_x0 (by omega)] at hwk ⊢
          exact ⟨Rel.bad hwk (.inl rfl) rfl, fun h => by cases h⟩
    · have hfb := rfT_bad 0 w hwb
      refine ⟨Rel.bad hwk ?_ hfb, fun h => by rw [hfb] at h; cases h⟩
      rw [hwb, Bool.or_eq_true] at hb
      rcases hb with rfl | hb
      · exact .inl (rdT_bad 0 r)
      · exact .inr (rdT_rbad 0 r bad hb)
  | succ d ih =>
    intro hd r bad w h
    have ih := ih (by omega)
    obtain ⟨hw, hb, hs⟩ := h
    have hwk := (fread_ev (d + 1) hd w hw).2
    cases hwb : w.bad
    · have hs := hs hwb
      rw [hwb, Bool.or_eq_false_iff] at hb
      obtain ⟨rfl, hrb⟩ := hb
      have hk := sim_kd hs
      have hh := sim_hd hs
      have hle := r.kd_le
      by_cases h0 : r.kd = 0
      · rw [rdT_z (d + 1) false (.inl h0), rfT_0 (by omega)]
        rw [hdT_z h0, hdF_x (by omega) (by omega) (by omega)] at hh
        rw [hdT_z h0]
        exact ⟨Rel.good hh.2, fun _ => hh.1⟩
      · have hy : w.byte.2.bad = false := by
          cases e : w.byte.2.bad
          · rfl
          · have := fbyte_bad e; omega
        by_cases h3 : r.kd = 3
        · rw [rdT_z (d + 1) false (.inr h3), rfT_3 (by omega) hy]
          exact ⟨Rel.good hh.2, fun _ => hh.1⟩
        · by_cases hx : 3 < r.kd
          · rw [rdT_x (d + 1) false (by omega) (.inr (.inl (by omega)))]
            rw [rfT_x (by omega)] at hwk ⊢
            exact ⟨Rel.bad hwk (.inl rfl) rfl, fun h => by cases h⟩
          · have hbb := hh.2.2.2.1
            cases hz : (hdF w).2.bad
            · rw [hz] at hbb
              rw [rdT_d d false (by omega) (by rw [hbb]; simp; omega), rfT_d (by omega) hy hz]
              have i1 := ih (hdT r).2 false (hdF w).2 (Rel.good hh.2)
              have i2 := ih _ _ _ i1.1
              refine ⟨i2.1, fun h => ?_⟩
              have e1 : (rfT d (hdF w).2).2.bad = false := by
                cases e : (rfT d (hdF w).2).2.bad
                · rfl
                · have := rfT_bad d _ e
                  rw [this] at h
                  cases h
              simp only
              rw [i1.2 e1, i2.2 h, hh.1]
            · rw [hz] at hbb
              rw [rdT_x (d + 1) false (by omega) (.inr (.inr (.inl hbb)))]
              rw [rfT_b (by omega) hy hz] at hwk ⊢
              exact ⟨Rel.bad hwk (.inl rfl) hz, fun h => by rw [hz] at h; cases h⟩
    · have hfb := rfT_bad (d + 1) w hwb
      refine ⟨Rel.bad hwk ?_ hfb, fun h => by rw [hfb] at h; cases h⟩
      rw [hwb, Bool.or_eq_true] at hb
      rcases hb with rfl | hb
      · exact .inl (rdT_bad (d + 1) r)
      · exact .inr (rdT_rbad (d + 1) r bad hb)
theorem rd_rf (b : List UInt8) (h : b.length ≤ 1048576) : rdC b = rfC b ∧ rdV b = rfV b := by
  have hs : Sim ⟨b, false⟩ ⟨b, 0, false⟩ := ⟨⟨by simp only; omega, by simp only; omega⟩, Nat.le_refl _, rfl, fun _ => rfl⟩
  have h1 := sim_read 64 (by omega) ⟨b, false⟩ false ⟨b, 0, false⟩ (Rel.good hs)
  change Rel (rdR b).2.1 (rdR b).2.2 (rfR b).2 ∧ ((rfR b).2.bad = false → (rdR b).1 = (rfR b).1) at h1
  unfold rdV rfV rdC rfC
  generalize rdR b = p at *
  generalize rfR b = q at *
  obtain ⟨t, r, x⟩ := p
  obtain ⟨u, w⟩ := q
  obtain ⟨⟨h2, h3, h4⟩, h5⟩ := h1
  simp only at *
  cases hw : w.bad
  · have hsm := sim_fin (h4 hw)
    rw [hw, Bool.or_eq_false_iff] at h3
    obtain ⟨rfl, h3⟩ := h3
    simp only [Bool.false_eq_true, if_false]
    rw [hsm.1, h5 hw]
    exact ⟨rfl, rfl⟩
  · have e1 : w.fin = 3 := by unfold Rf.fin; rw [if_pos hw]
    have e2 : (if x = true then (3 : Int) else r.fin) = 3 := by
      rw [hw, Bool.or_eq_true] at h3
      rcases h3 with h3 | h3
      · rw [if_pos h3]
      · split
        · rfl
        · unfold Rd.fin; rw [if_pos h3]
    rw [e1, e2, if_neg (by decide), if_neg (by decide)]
    exact ⟨rfl, rfl⟩

end Go.Proofs.Ytkfaahjcncpmhaa
