/-
  What is read is small.
-/
import Derived.Test.YtkfaahjcncpmhaaLRdr9c
set_option linter.unusedSimpArgs false
set_option linter.unusedVariables false
set_option maxRecDepth 200000
set_option maxHeartbeats 4000000
namespace Go.Proofs.Ytkfaahjcncpmhaa
open Go.Ev

theorem log_fits_chain {b : List UInt8} (h : b.length ≤ 20000) (p1 p2 : Int × Rq) (p3 : List Int × Rq) (p4 : List Ent × Rq) (e1 : p1 = (q0 b).cnt) (e2 : p2 = p1.2.cnt) (e3 : p3 = p2.2.mems) (e4 : p4 = p3.2.ents) : p3.1.length ≤ 1048576 ∧ sumE p4.1 ≤ 41943040 := by
  have l1 : p1.2.r.b.length ≤ b.length := by rw [e1]; exact (q0 b).cnt_le.1
  have l2 : p2.2.r.b.length ≤ p1.2.r.b.length := by rw [e2]; exact p1.2.cnt_le.1
  have l3 : p3.2.r.b.length ≤ p2.2.r.b.length ∧ p3.1.length ≤ p2.2.r.b.length + 1 := by rw [e3]; exact p2.2.mems_le
  have l4 : p4.2.r.b.length ≤ p3.2.r.b.length ∧ sumE p4.1 ≤ 41 * p3.2.r.b.length + 40 := by rw [e4]; exact p3.2.ents_le
  omega
theorem log_fits (b : List UInt8) (h : b.length ≤ 20000) : (lgV b).mem.length ≤ 1048576 ∧ sumE (lgV b).ents ≤ 41943040 := by
  unfold lgV
  split
  · have := log_fits_chain h (q0 b).cnt (q0 b).cnt.2.cnt (q0 b).cnt.2.cnt.2.mems (q0 b).cnt.2.cnt.2.mems.2.ents rfl rfl rfl rfl
    simp only [qLog]
    exact this
  · exact ⟨by decide, by decide⟩
theorem mgno_fit : MG.no.fit := ⟨by decide, by decide, by decide, by decide⟩
theorem msg_fits_chain {b : List UInt8} (h : b.length ≤ 20000) (p1 p2 p3 p4 p5 p6 p7 p8 : Int × Rq) (p9 : List Ent × Rq) (p10 : List Int × Rq) (p11 : Int × Rq) (p12 : List UInt8 × Rq) (p13 : T × Rq) (e1 : p1 = (q0 b).cnt) (e2 : p2 = p1.2.cnt) (e3 : p3 = p2.2.cnt) (e4 : p4 = p3.2.cnt) (e5 : p5 = p4.2.cnt) (e6 : p6 = p5.2.cnt) (e7 : p7 = p6.2.cnt) (e8 : p8 = p7.2.byt) (e9 : p9 = p8.2.ents) (e10 : p10 = p9.2.mems) (e11 : p11 = p10.2.cnt) (e12 : p12 = p11.2.bys 32) (e13 : p13 = p12.2.tre) : sumE p9.1 ≤ 41943040 ∧ p10.1.length ≤ 1048576 ∧ p12.1.length ≤ 1048576 ∧ p13.1.size ≤ 1048576 := by
  have l1 : p1.2.r.b.length ≤ b.length := by rw [e1]; exact (q0 b).cnt_le.1
  have l2 : p2.2.r.b.length ≤ p1.2.r.b.length := by rw [e2]; exact p1.2.cnt_le.1
  have l3 : p3.2.r.b.length ≤ p2.2.r.b.length := by rw [e3]; exact p2.2.cnt_le.1
  have l4 : p4.2.r.b.length ≤ p3.2.r.b.length := by rw [e4]; exact p3.2.cnt_le.1
  have l5 : p5.2.r.b.length ≤ p4.2.r.b.length := by rw [e5]; exact p4.2.cnt_le.1
  have l6 : p6.2.r.b.length ≤ p5.2.r.b.length := by rw [e6]; exact p5.2.cnt_le.1
  have l7 : p7.2.r.b.length ≤ p6.2.r.b.length := by rw [e7]; exact p6.2.cnt_le.1
  have l8 : p8.2.r.b.length ≤ p7.2.r.b.length := by rw [e8]; exact p7.2.r.byte_le
  have l9 : p9.2.r.b.length ≤ p8.2.r.b.length ∧ sumE p9.1 ≤ 41 * p8.2.r.b.length + 40 := by rw [e9]; exact p8.2.ents_le
  have l10 : p10.2.r.b.length ≤ p9.2.r.b.length ∧ p10.1.length ≤ p9.2.r.b.length + 1 := by rw [e10]; exact p9.2.mems_le
  have l11 : p11.2.r.b.length ≤ p10.2.r.b.length := by rw [e11]; exact p10.2.cnt_le.1
  have l12 : p12.1.length + p12.2.r.b.length ≤ p11.2.r.b.length := by rw [e12]; exact bytes_take p11.2.r 32
  have l13 := bytes_take p12.2.r 1048576
  have l14 : p13.1.size ≤ (p12.2.r.bytes 1048576).1.length + 1 := by rw [e13]; exact rdV_sz _
  omega
theorem fit_mk {a b c d e f g : Int} {h : Bool} {i : List Ent} {j : List Int} {k : Int} {l : List UInt8} {t : T} (h1 : sumE i ≤ 41943040) (h2 : j.length ≤ 1048576) (h3 : l.length ≤ 1048576) (h4 : t.size ≤ 1048576) : MG.fit ⟨a, b, c, d, e, f, g, h, i, j, k, l, t⟩ := ⟨h1, h2, h3, h4⟩
theorem msg_fits (b : List UInt8) (h : b.length ≤ 20000) : (msV b).fit := by
  unfold msV
  split
  · obtain ⟨h1, h2, h3, h4⟩ := msg_fits_chain h (G1 b) (G2 b) (G3 b) (G4 b) (G5 b) (G6 b) (G7 b) (G8 b) (G9 b) (G10 b) (G11 b) (G12 b) (G13 b) rfl rfl rfl rfl rfl rfl rfl rfl rfl rfl rfl rfl rfl
    unfold qMsg
    exact fit_mk h1 h2 h3 h4
  · exact mgno_fit

end Go.Proofs.Ytkfaahjcncpmhaa
