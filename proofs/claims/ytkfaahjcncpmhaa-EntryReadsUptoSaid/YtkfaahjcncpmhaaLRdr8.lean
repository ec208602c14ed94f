/-
  Logs out of bytes: both readers say the same.
-/
import Derived.Test.YtkfaahjcncpmhaaLRdr7
set_option linter.unusedSimpArgs false
set_option linter.unusedVariables false
set_option maxRecDepth 200000
set_option maxHeartbeats 4000000
namespace Go.Proofs.Ytkfaahjcncpmhaa
open Go.Ev

theorem log_c (b : List UInt8) (h : b.length ≤ 1048577) : lgC b = flC b := by
  obtain ⟨a1, a2⟩ := cnt_sim (q0_sim b h)
  obtain ⟨b1, b2⟩ := cnt_sim a1
  obtain ⟨c1, c2⟩ := mems_sim b1
  obtain ⟨d1, d2⟩ := ents_sim c1
  have hf := fin_sim d1
  simp only [lgC, flC, qLog, fLog]
  rw [hf]
theorem log_v (b : List UInt8) (h : b.length ≤ 1048577) : lgV b = flV b := by
  have e1 := log_c b h
  unfold lgV flV
  rw [e1]
  by_cases hz : flC b = 0
  · rw [if_pos hz, if_pos hz]
    obtain ⟨a1, a2⟩ := cnt_sim (q0_sim b h)
    obtain ⟨b1, b2⟩ := cnt_sim a1
    obtain ⟨c1, c2⟩ := mems_sim b1
    obtain ⟨d1, d2⟩ := ents_sim c1
    have g4 : (w0 b).cnt.2.cnt.2.mems.2.ents.2.bad = false := by
      simp only [flC, fLog] at hz
      by_cases hl : 1048576 < b.length
      · rw [if_pos hl] at hz; cases hz
      · rw [if_neg hl] at hz; exact fin_0 hz
    have g3 := good_of ents_bad g4
    have g2 := good_of mems_bad g3
    have g1 := good_of (fcnt_left _).2 g2
    simp only [qLog, fLog]
    rw [a2 g1, b2 g2, c2 g3, d2 g4]
  · rw [if_neg hz, if_neg hz]

end Go.Proofs.Ytkfaahjcncpmhaa
