/-
  A reader and the document's reader, side by side.
-/
import Derived.Test.YtkfaahjcncpmhaaLRef02
set_option linter.unusedSimpArgs false
set_option linter.unusedVariables false
set_option maxRecDepth 200000
set_option maxHeartbeats 4000000
namespace Go.Proofs.Ytkfaahjcncpmhaa
open Go.Ev

def Sim (r : Rd) (w : Rf) : Prop := w.ok ∧ r.b.length ≤ w.B.length ∧ r.bad = w.bad ∧ (r.bad = false → r.b = w.B.drop w.p)
theorem Sim.len {r : Rd} {w : Rf} (h : Sim r w) : r.b.length ≤ 1073741824 := Nat.le_trans h.2.1 h.1.1
theorem sim_byte {r : Rd} {w : Rf} (h : Sim r w) : r.byte.1 = w.byte.1 ∧ Sim r.byte.2 w.byte.2 ∧ w.byte.2.B = w.B := by
  obtain ⟨b, bad⟩ := r
  obtain ⟨B, p, bad'⟩ := w
  obtain ⟨⟨h1, h2⟩, h3, h4, h5⟩ := h
  simp only at *
  subst h4
  cases bad
  · have h5 := h5 rfl
    subst h5
    simp only [Rd.byte, Rd.take, Rf.byte, Bool.false_eq_true, if_false, List.length_drop]
    by_cases hp : B.length ≤ p
    · rw [if_pos (by omega), if_pos hp]
      exact ⟨rfl, ⟨⟨h1, h2⟩, h3, rfl, fun h => by simp at h⟩, rfl⟩
    · rw [if_neg (by omega), if_neg hp]
      refine ⟨?_, ⟨⟨h1, by simp only; omega⟩, by simp only [List.length_drop]; omega, rfl, fun _ => ?_⟩, rfl⟩
      · simp [List.getD, List.getElem?_take, List.getElem?_drop]
      · simp [List.drop_drop, Nat.add_comm]
  · simp only [Rd.byte, Rd.take, Rf.byte, if_true]
    exact ⟨rfl, ⟨⟨h1, h2⟩, h3, rfl, fun h => by simp at h⟩, trivial⟩
theorem byte_bad {r : Rd} (h : r.byte.2.bad = true) : r.byte.1 = 0 := by
  revert h
  simp only [Rd.byte, Rd.take]
  split
  · exact fun _ => rfl
  · split
    · exact fun _ => rfl
    · intro h; simp at h
theorem sim_num {r : Rd} {w : Rf} (h : Sim r w) : r.num.1 = w.num.1 ∧ Sim r.num.2 w.num.2 := by
  obtain ⟨e1, h1, eB⟩ := sim_byte h
  have hbad := @byte_bad r
  simp only [Rd.num, Rf.num]
  rw [← e1]
  generalize hq : w.byte.2 = w1 at *
  generalize hr : r.byte.2 = r1 at *
  generalize r.byte.1 = c at *
  obtain ⟨b, bad⟩ := r1
  obtain ⟨B, p, bad'⟩ := w1
  obtain ⟨⟨h2, h3⟩, h4, h5, h6⟩ := h1
  simp only at *
  subst h5
  have hc := c.toNat_lt
  cases bad
  · have h6 := h6 rfl
    subst h6
    by_cases hc2 : c.toNat ≤ 247
    · have d1 : c.toNat < 248 := by omega
      simp only [hc2, d1, if_true, Bool.false_eq_true, if_false]
      exact ⟨trivial, ⟨h2, h3⟩, h4, rfl, fun _ => rfl⟩
    · have d1 : ¬ c.toNat < 248 := by omega
      have e2 : ((c.toNat : Int) - 247).toNat = c.toNat - 247 := by omega
      by_cases hl : B.length - p < c.toNat - 247
      · have ht : Rd.take ⟨B.drop p, false⟩ ((c.toNat : Int) - 247) = ([], ⟨B.drop p, true⟩) := by
          simp only [Rd.take, Bool.false_eq_true, if_false, List.length_drop]
          rw [if_pos (by omega)]
        simp only [hc2, d1, hl, ht, if_true, if_false, Bool.false_eq_true, List.length_nil, true_or]
        exact ⟨trivial, ⟨h2, h3⟩, h4, rfl, fun h => by simp at h⟩
      · have ht : Rd.take ⟨B.drop p, false⟩ ((c.toNat : Int) - 247) = ((B.drop p).take (c.toNat - 247), ⟨B.drop (p + (c.toNat - 247)), false⟩) := by
          simp only [Rd.take, Bool.false_eq_true, if_false, List.length_drop]
          rw [if_neg (by omega), e2, List.drop_drop]
        simp only [hc2, d1, hl, ht, if_true, if_false, Bool.false_eq_true]
        generalize hL : (B.drop p).take (c.toNat - 247) = l
        have hlen : l.length = c.toNat - 247 := by rw [← hL]; simp; omega
        have d2 : ¬ l.length = 0 := by omega
        by_cases ha : l.getD 0 0 = 0 ∨ beV l ≤ 247
        · have hb : l.getD 0 0 = 0 ∨ beV l < 248 := ha.imp id fun h => by omega
          simp only [ha, hb, d2, false_or, if_true]
          exact ⟨trivial, ⟨h2, h3⟩, by simp only [List.length_drop]; omega, rfl, fun h => by simp at h⟩
        · have hb : ¬ (l.getD 0 0 = 0 ∨ beV l < 248) := fun h => ha (h.imp id fun h => by omega)
          simp only [ha, hb, d2, false_or, if_false]
          exact ⟨trivial, ⟨h2, by simp only; omega⟩, by simp only [List.length_drop]; omega, rfl, fun _ => rfl⟩
  · have hz := hbad rfl
    subst hz
    have d0 : (0 : UInt8).toNat ≤ 247 := by decide
    simp only [d0, if_true]
    exact ⟨trivial, ⟨h2, h3⟩, h4, rfl, fun h => by simp at h⟩
theorem sim_bytes {r : Rd} {w : Rf} (h : Sim r w) (most : Int) : (r.bytes most).1 = (w.bytes most).1 ∧ Sim (r.bytes most).2 (w.bytes most).2 := by
  obtain ⟨e1, h1⟩ := sim_num h
  have hn := r.num_le
  simp only [Rd.bytes, Rf.bytes]
  rw [← e1]
  generalize w.num.2 = w1 at *
  generalize r.num.2 = r1 at *
  generalize r.num.1 = n at *
  obtain ⟨b, bad⟩ := r1
  obtain ⟨B, p, bad'⟩ := w1
  obtain ⟨⟨h2, h3⟩, h4, h5, h6⟩ := h1
  simp only at *
  subst h5
  cases bad
  · have h6 := h6 rfl
    subst h6
    simp only [Bool.false_eq_true, false_or, List.length_drop]
    by_cases ha : most < 0 ∨ most < n ∨ ((B.length - p : Nat) : Int) < n
    · simp only [ha, if_true]
      exact ⟨trivial, ⟨h2, h3⟩, by simp only [List.length_drop]; omega, rfl, fun h => by simp at h⟩
    · have ht : Rd.take ⟨B.drop p, false⟩ n = ((B.drop p).take n.toNat, ⟨B.drop (p + n.toNat), false⟩) := by
        simp only [Rd.take, Bool.false_eq_true, if_false, List.length_drop]
        rw [if_neg (by omega), List.drop_drop]
      simp only [ha, ht, if_false]
      exact ⟨trivial, ⟨h2, by simp only; omega⟩, by simp only [List.length_drop]; omega, rfl, fun _ => rfl⟩
  · simp only [true_or, if_true]
    exact ⟨trivial, ⟨h2, h3⟩, h4, rfl, fun h => by simp at h⟩
theorem sim_fin {r : Rd} {w : Rf} (h : Sim r w) : r.fin = w.fin ∧ 0 ≤ r.fin ∧ r.fin ≤ 13 := by
  obtain ⟨⟨h1, h2⟩, h3, h4, h5⟩ := h
  simp only [Rd.fin, Rf.fin]
  rw [← h4]
  cases hb : r.bad
  · rw [h5 hb]
    simp only [Bool.false_eq_true, if_false, List.length_drop]
    refine ⟨?_, ?_, ?_⟩
    · by_cases hp : w.p < w.B.length
      · rw [if_pos (by omega), if_pos hp]
      · rw [if_neg (by omega), if_neg hp]
    · split <;> decide
    · split <;> decide
  · simp

end Go.Proofs.Ytkfaahjcncpmhaa
