/-
  Messages out of bytes: both readers say the same; what is read is small.
-/
import Derived.Test.YtkfaahjcncpmhaaLRdr10c
set_option linter.unusedSimpArgs false
set_option linter.unusedVariables false
set_option maxRecDepth 200000
set_option maxHeartbeats 4000000
namespace Go.Proofs.Ytkfaahjcncpmhaa
open Go.Ev

theorem byt_sim {q : Rq} {w : Rf} (h : RelQ q w) : RelQ q.byt.2 w.byt.2 ∧ (w.byt.2.bad = false → q.byt.1 = w.byt.1) := by
  cases hb : w.bad
  · obtain ⟨h1, h2⟩ := h.sim hb
    have e := sim_kd h2
    have hs := (sim_byte h2).2.1
    unfold Rq.byt Rf.byt
    rw [e]
    simp only
    by_cases c : 1 < w.kd
    · rw [if_pos c, decide_eq_true c, Bool.or_true]
      exact ⟨RelQ.bad (spoil_ok (w.byte_ok h.1)) rfl rfl, fun _ => trivial⟩
    · rw [if_neg c, decide_eq_false c, Bool.or_false, h1]
      exact ⟨Rel.good hs, fun _ => trivial⟩
  · obtain ⟨f1, f2⟩ := fkd_bad hb
    have hn := h.no
    rw [hb] at hn
    unfold Rq.byt Rf.byt
    simp only
    rw [f1, if_neg (by decide)]
    refine ⟨RelQ.bad (w.byte_ok h.1) ?_ f2, fun x => by rw [f2] at x; cases x⟩
    unfold Rq.no at hn ⊢
    rw [Bool.or_eq_true] at hn ⊢
    rcases hn with hn | hn
    · left; simp only; rw [hn]; rfl
    · right; exact (kd_bad hn).2
theorem tre_sim {q : Rq} {w : Rf} (h : RelQ q w) : RelQ q.tre.2 w.tre.2 ∧ (w.tre.2.bad = false → q.tre.1 = w.tre.1) := by
  obtain ⟨h1, h2⟩ := bytes_simQ h 1048576
  have hl := fbytes_len w h.1
  unfold Rq.tre Rf.tre
  simp only
  generalize q.r.bytes 1048576 = y at *
  generalize w.bytes 1048576 = z at *
  cases hz : z.2.bad
  · have e := h2 hz
    rw [e]
    obtain ⟨e1, e2⟩ := rd_rf z.1 hl
    rw [e1, e2]
    by_cases c : rfC z.1 = 0
    · rw [if_pos c, decide_eq_false (by simp [c]), Bool.or_false]
      exact ⟨h1, fun _ => rfl⟩
    · rw [if_neg c, decide_eq_true c, Bool.or_true]
      exact ⟨RelQ.bad (spoil_ok h1.1) rfl rfl, fun _ => rfl⟩
  · have hn := h1.no
    rw [hz] at hn
    have hw : (if rfC z.1 = 0 then z.2 else z.2.spoil).bad = true := by
      split
      · exact hz
      · rfl
    have hk : (if rfC z.1 = 0 then z.2 else z.2.spoil).ok := by
      split
      · exact h1.1
      · exact spoil_ok h1.1
    refine ⟨RelQ.bad hk ?_ hw, fun x => by rw [hw] at x; cases x⟩
    unfold Rq.no at hn ⊢
    rw [Bool.or_eq_true] at hn ⊢
    rcases hn with hn | hn
    · left; simp only at hn ⊢; rw [hn]; rfl
    · right; exact hn
theorem byt_bad {w : Rf} (h : w.bad = true) : w.byt.2.bad = true := by
  unfold Rf.byt
  simp only
  split
  · rfl
  · exact (fkd_bad h).2
theorem tre_bad {w : Rf} (h : w.bad = true) : w.tre.2.bad = true := by
  have h2 := (fbytes_left w 1048576).2 h
  unfold Rf.tre
  simp only
  split
  · exact h2
  · rfl
theorem msg_chain {b : List UInt8} (h : b.length ≤ 1048577) (p1 p2 p3 p4 p5 p6 p7 p8 : Int × Rq) (p9 : List Ent × Rq) (p10 : List Int × Rq) (p11 : Int × Rq) (p12 : List UInt8 × Rq) (p13 : T × Rq) (e1 : p1 = (q0 b).cnt) (e2 : p2 = p1.2.cnt) (e3 : p3 = p2.2.cnt) (e4 : p4 = p3.2.cnt) (e5 : p5 = p4.2.cnt) (e6 : p6 = p5.2.cnt) (e7 : p7 = p6.2.cnt) (e8 : p8 = p7.2.byt) (e9 : p9 = p8.2.ents) (e10 : p10 = p9.2.mems) (e11 : p11 = p10.2.cnt) (e12 : p12 = p11.2.bys 32) (e13 : p13 = p12.2.tre) (r1 r2 r3 r4 r5 r6 r7 r8 : Int × Rf) (r9 : List Ent × Rf) (r10 : List Int × Rf) (r11 : Int × Rf) (r12 : List UInt8 × Rf) (r13 : T × Rf) (f1 : r1 = (w0 b).cnt) (f2 : r2 = r1.2.cnt) (f3 : r3 = r2.2.cnt) (f4 : r4 = r3.2.cnt) (f5 : r5 = r4.2.cnt) (f6 : r6 = r5.2.cnt) (f7 : r7 = r6.2.cnt) (f8 : r8 = r7.2.byt) (f9 : r9 = r8.2.ents) (f10 : r10 = r9.2.mems) (f11 : r11 = r10.2.cnt) (f12 : r12 = r11.2.bytes 32) (f13 : r13 = r12.2.tre) :
    p13.2.fn = r13.2.fin ∧ (r13.2.bad = false → p1.1 = r1.1 ∧ p2.1 = r2.1 ∧ p3.1 = r3.1 ∧ p4.1 = r4.1 ∧ p5.1 = r5.1 ∧ p6.1 = r6.1 ∧ p7.1 = r7.1 ∧ p8.1 = r8.1 ∧ p9.1 = r9.1 ∧ p10.1 = r10.1 ∧ p11.1 = r11.1 ∧ p12.1 = r12.1 ∧ p13.1 = r13.1) := by
  obtain ⟨a1, v1⟩ : RelQ p1.2 r1.2 ∧ (r1.2.bad = false → p1.1 = r1.1) := by rw [e1, f1]; exact cnt_sim (q0_sim b h)
  obtain ⟨a2, v2⟩ : RelQ p2.2 r2.2 ∧ (r2.2.bad = false → p2.1 = r2.1) := by rw [e2, f2]; exact cnt_sim a1
  obtain ⟨a3, v3⟩ : RelQ p3.2 r3.2 ∧ (r3.2.bad = false → p3.1 = r3.1) := by rw [e3, f3]; exact cnt_sim a2
  obtain ⟨a4, v4⟩ : RelQ p4.2 r4.2 ∧ (r4.2.bad = false → p4.1 = r4.1) := by rw [e4, f4]; exact cnt_sim a3
  obtain ⟨a5, v5⟩ : RelQ p5.2 r5.2 ∧ (r5.2.bad = false → p5.1 = r5.1) := by rw [e5, f5]; exact cnt_sim a4
  obtain ⟨a6, v6⟩ : RelQ p6.2 r6.2 ∧ (r6.2.bad = false → p6.1 = r6.1) := by rw [e6, f6]; exact cnt_sim a5
  obtain ⟨a7, v7⟩ : RelQ p7.2 r7.2 ∧ (r7.2.bad = false → p7.1 = r7.1) := by rw [e7, f7]; exact cnt_sim a6
  obtain ⟨a8, v8⟩ : RelQ p8.2 r8.2 ∧ (r8.2.bad = false → p8.1 = r8.1) := by rw [e8, f8]; exact byt_sim a7
  obtain ⟨a9, v9⟩ : RelQ p9.2 r9.2 ∧ (r9.2.bad = false → p9.1 = r9.1) := by rw [e9, f9]; exact ents_sim a8
  obtain ⟨a10, v10⟩ : RelQ p10.2 r10.2 ∧ (r10.2.bad = false → p10.1 = r10.1) := by rw [e10, f10]; exact mems_sim a9
  obtain ⟨a11, v11⟩ : RelQ p11.2 r11.2 ∧ (r11.2.bad = false → p11.1 = r11.1) := by rw [e11, f11]; exact cnt_sim a10
  obtain ⟨a12, v12⟩ : RelQ p12.2 r12.2 ∧ (r12.2.bad = false → p12.1 = r12.1) := by rw [e12, f12]; exact bytes_simQ a11 32
  obtain ⟨a13, v13⟩ : RelQ p13.2 r13.2 ∧ (r13.2.bad = false → p13.1 = r13.1) := by rw [e13, f13]; exact tre_sim a12
  refine ⟨fin_sim a13, fun g13 => ?_⟩
  have g12 : r12.2.bad = false := good_of tre_bad (by rw [f13] at g13; exact g13)
  have g11 : r11.2.bad = false := good_of (fbytes_left _ 32).2 (by rw [f12] at g12; exact g12)
  have g10 : r10.2.bad = false := good_of (fcnt_left _).2 (by rw [f11] at g11; exact g11)
  have g9 : r9.2.bad = false := good_of mems_bad (by rw [f10] at g10; exact g10)
  have g8 : r8.2.bad = false := good_of ents_bad (by rw [f9] at g9; exact g9)
  have g7 : r7.2.bad = false := good_of byt_bad (by rw [f8] at g8; exact g8)
  have g6 : r6.2.bad = false := good_of (fcnt_left _).2 (by rw [f7] at g7; exact g7)
  have g5 : r5.2.bad = false := good_of (fcnt_left _).2 (by rw [f6] at g6; exact g6)
  have g4 : r4.2.bad = false := good_of (fcnt_left _).2 (by rw [f5] at g5; exact g5)
  have g3 : r3.2.bad = false := good_of (fcnt_left _).2 (by rw [f4] at g4; exact g4)
  have g2 : r2.2.bad = false := good_of (fcnt_left _).2 (by rw [f3] at g3; exact g3)
  have g1 : r1.2.bad = false := good_of (fcnt_left _).2 (by rw [f2] at g2; exact g2)
  exact ⟨v1 g1, v2 g2, v3 g3, v4 g4, v5 g5, v6 g6, v7 g7, v8 g8, v9 g9, v10 g10, v11 g11, v12 g12, v13 g13⟩
theorem msg_cv (b : List UInt8) (h : b.length ≤ 1048577) : msC b = fsC b ∧ msV b = fsV b := by
  obtain ⟨hf, hv⟩ := msg_chain h (G1 b) (G2 b) (G3 b) (G4 b) (G5 b) (G6 b) (G7 b) (G8 b) (G9 b) (G10 b) (G11 b) (G12 b) (G13 b) rfl rfl rfl rfl rfl rfl rfl rfl rfl rfl rfl rfl rfl (K1 b) (K2 b) (K3 b) (K4 b) (K5 b) (K6 b) (K7 b) (K8 b) (K9 b) (K10 b) (K11 b) (K12 b) (K13 b) rfl rfl rfl rfl rfl rfl rfl rfl rfl rfl rfl rfl rfl
  have hc : msC b = fsC b := by
    unfold msC fsC
    rw [hf]
  refine ⟨hc, ?_⟩
  unfold msV fsV
  rw [hc]
  by_cases hz : fsC b = 0
  · rw [if_pos hz, if_pos hz]
    have g13 : (K13 b).2.bad = false := by
      unfold fsC at hz
      by_cases hl : 1048576 < b.length
      · rw [if_pos hl] at hz; cases hz
      · rw [if_neg hl] at hz; exact fin_0 hz
    obtain ⟨v1, v2, v3, v4, v5, v6, v7, v8, v9, v10, v11, v12, v13⟩ := hv g13
    unfold qMsg fMsg
    rw [v1, v2, v3, v4, v5, v6, v7, v8, v9, v10, v11, v12, v13]
  · rw [if_neg hz, if_neg hz]
theorem log_fits_chain {b : List UInt8} (h : b.length ≤ 20000) (p1 p2 : Int × Rq) (p3 : List Int × Rq) (p4 : List Ent × Rq) (e1 : p1 = (q0 b).cnt) (e2 : p2 = p1.2.cnt) (e3 : p3 = p2.2.mems) (e4 : p4 = p3.2.ents) : p3.1.length ≤ 1048576 ∧ sumE p4.1 ≤ 41943040 := by
  have l1 : p1.2.r.b.length ≤ b.length := by rw [e1]; exact (q0 b).cnt_le.1
  have l2 : p2.2.r.b.length ≤ p1.2.r.b.length := by rw [e2]; exact p1.2.cnt_le.1
  have l3 : p3.2.r.b.length ≤ p2.2.r.b.length ∧ p3.1.length ≤ p2.2.r.b.length + 1 := by rw [e3]; exact p2.2.mems_le
  have l4 : p4.2.r.b.length ≤ p3.2.r.b.length ∧ sumE p4.1 ≤ 41 * p3.2.r.b.length + 40 := by rw [e4]; exact p3.2.ents_le
  omega
theorem log_fits (b : List UInt8) (h : b.length ≤ 20000) : (lgV b).mem.length ≤ 1048576 ∧ sumE (lgV b).ents ≤ 41943040 := by
  unfold lgV
  split
  · have := log_fits_chain h (q0 b).cnt (q0 b).cnt.2.cnt (q0 b).cnt.2.cnt.2.mems (q0 b).cnt.2.cnt.2.mems.2.ents rfl rfl rfl rfl
    simp only [qLog]
    exact this
  · exact ⟨by decide, by decide⟩
theorem mgno_fit : MG.no.fit := ⟨by decide, by decide, by decide, by decide⟩
theorem msg_fits_chain {b : List UInt8} (h : b.length ≤ 20000) (p1 p2 p3 p4 p5 p6 p7 p8 : Int × Rq) (p9 : List Ent × Rq) (p10 : List Int × Rq) (p11 : Int × Rq) (p12 : List UInt8 × Rq) (p13 : T × Rq) (e1 : p1 = (q0 b).cnt) (e2 : p2 = p1.2.cnt) (e3 : p3 = p2.2.cnt) (e4 : p4 = p3.2.cnt) (e5 : p5 = p4.2.cnt) (e6 : p6 = p5.2.cnt) (e7 : p7 = p6.2.cnt) (e8 : p8 = p7.2.byt) (e9 : p9 = p8.2.ents) (e10 : p10 = p9.2.mems) (e11 : p11 = p10.2.cnt) (e12 : p12 = p11.2.bys 32) (e13 : p13 = p12.2.tre) : sumE p9.1 ≤ 41943040 ∧ p10.1.length ≤ 1048576 ∧ p12.1.length ≤ 1048576 ∧ p13.1.size ≤ 1048576 := by
  have l1 : p1.2.r.b.length ≤ b.length := by rw [e1]; exact (q0 b).cnt_le.1
  have l2 : p2.2.r.b.length ≤ p1.2.r.b.length := by rw [e2]; exact p1.2.cnt_le.1
  have l3 : p3.2.r.b.length ≤ p2.2.r.b.length := by rw [e3]; exact p2.2.cnt_le.1
  have l4 : p4.2.r.b.length ≤ p3.2.r.b.length := by rw [e4]; exact p3.2.cnt_le.1
  have l5 : p5.2.r.b.length ≤ p4.2.r.b.length := by rw [e5]; exact p4.2.cnt_le.1
  have l6 : p6.2.r.b.length ≤ p5.2.r.b.length := by rw [e6]; exact p5.2.cnt_le.1
  have l7 : p7.2.r.b.length ≤ p6.2.r.b.length := by rw [e7]; exact p6.2.cnt_le.1
  have l8 : p8.2.r.b.length ≤ p7.2.r.b.length := by rw [e8]; exact p7.2.r.byte_le
  have l9 : p9.2.r.b.length ≤ p8.2.r.b.length ∧ sumE p9.1 ≤ 41 * p8.2.r.b.length + 40 := by rw [e9]; exact p8.2.ents_le
  have l10 : p10.2.r.b.length ≤ p9.2.r.b.length ∧ p10.1.length ≤ p9.2.r.b.length + 1 := by rw [e10]; exact p9.2.mems_le
  have l11 : p11.2.r.b.length ≤ p10.2.r.b.length := by rw [e11]; exact p10.2.cnt_le.1
  have l12 : p12.1.length + p12.2.r.b.length ≤ p11.2.r.b.length := by rw [e12]; exact bytes_take p11.2.r 32
  have l13 := bytes_take p12.2.r 1048576
  have l14 : p13.1.size ≤ (p12.2.r.bytes 1048576).1.length + 1 := by rw [e13]; exact rdV_sz _
  omega
theorem fit_mk {a b c d e f g : Int} {h : Bool} {i : List Ent} {j : List Int} {k : Int} {l : List UInt8} {t : T} (h1 : sumE i ≤ 41943040) (h2 : j.length ≤ 1048576) (h3 : l.length ≤ 1048576) (h4 : t.size ≤ 1048576) : MG.fit ⟨a, b, c, d, e, f, g, h, i, j, k, l, t⟩ := ⟨h1, h2, h3, h4⟩
theorem msg_fits (b : List UInt8) (h : b.length ≤ 20000) : (msV b).fit := by
  unfold msV
  split
  · obtain ⟨h1, h2, h3, h4⟩ := msg_fits_chain h (G1 b) (G2 b) (G3 b) (G4 b) (G5 b) (G6 b) (G7 b) (G8 b) (G9 b) (G10 b) (G11 b) (G12 b) (G13 b) rfl rfl rfl rfl rfl rfl rfl rfl rfl rfl rfl rfl rfl
    unfold qMsg
    exact fit_mk h1 h2 h3 h4
  · exact mgno_fit

end Go.Proofs.Ytkfaahjcncpmhaa
