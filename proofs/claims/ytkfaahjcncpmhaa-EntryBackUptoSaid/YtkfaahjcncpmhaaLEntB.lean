/-
  Messages out of bytes: the program's reader, from its front to its end.
-/
import Derived.Test.YtkfaahjcncpmhaaLRdr9
import Derived.Test.YtkfaahjcncpmhaaLCoder
import Derived.Test.YtkfaahjcncpmhaaLCodeSz
set_option linter.unusedSimpArgs false
set_option linter.unusedVariables false
set_option maxRecDepth 200000
set_option maxHeartbeats 4000000
namespace Go.Proofs.Ytkfaahjcncpmhaa
open Go.Ev

theorem cnt_b {q : Rq} (h : q.bad = true) : q.cnt.2.bad = true := by
  unfold Rq.cnt
  split
  · rfl
  · exact h
theorem no_b {q : Rq} (h : q.bad = true) : q.no = true := by
  unfold Rq.no; rw [h]; rfl
theorem mems_b {q : Rq} (h : q.bad = true) : q.mems.2.bad = true := by
  unfold Rq.mems
  rw [qmem_no (no_b (cnt_b h))]
  exact cnt_b h
theorem ents_b {q : Rq} (h : q.bad = true) : q.ents.2.bad = true := by
  unfold Rq.ents
  rw [qent_no (no_b (cnt_b h))]
  exact cnt_b h
theorem fn_b {q : Rq} (h : ¬ q.fn = 3) : q.bad = false := by
  cases hb : q.bad
  · rfl
  · unfold Rq.fn at h
    rw [if_pos (no_b hb)] at h
    exact absurd rfl h
theorem good_b {a b : Bool} (h : a = true → b = true) (hb : b = false) : a = false := by
  cases a
  · rfl
  · rw [h rfl] at hb; cases hb
theorem Read_chain (b : List UInt8) (hl : ¬ 1048576 < b.length) (p1 p2 p3 p4 p5 p6 p7 p8 : Int × Rq) (p9 : List Ent × Rq) (p10 : List Int × Rq) (p11 : Int × Rq) (p12 : List UInt8 × Rq) (p13 : T × Rq)
    (e1 : p1 = (q0 b).cnt) (e2 : p2 = p1.2.cnt) (e3 : p3 = p2.2.cnt) (e4 : p4 = p3.2.cnt) (e5 : p5 = p4.2.cnt) (e6 : p6 = p5.2.cnt) (e7 : p7 = p6.2.cnt) (e8 : p8 = p7.2.byt) (e9 : p9 = p8.2.ents) (e10 : p10 = p9.2.mems) (e11 : p11 = p10.2.cnt) (e12 : p12 = p11.2.bys 32) (e13 : p13 = p12.2.tre) :
    Ev tab G0 n_entry_Read [.sl true (eB b)] [] = some ([avMsg (if p13.2.fn = 0 then ⟨p1.1, p2.1, p3.1, p4.1, p5.1, p6.1, p7.1, decide (p8.1 = 1), p9.1, p10.1, p11.1, p12.1, p13.1⟩ else MG.no), errV p13.2.fn], []) := by
  have h0 := coder_NewReader_ev b (by omega)
  have h1 : Ev tab G0 n_entry_reader_count [.ptr 0 0] [oQ 1 false, rO ⟨b, false⟩] = some ([i64 p1.1], inQ p1.2) := by rw [e1]; exact qcount_ev (q0 b) (by simp only [q0]; omega)
  have l1 : p1.2.r.b.length ≤ b.length := by rw [e1]; exact (q0 b).cnt_le.1
  have h2 : Ev tab G0 n_entry_reader_count [.ptr 0 0] (inQ p1.2) = some ([i64 p2.1], inQ p2.2) := by rw [e2]; exact qcount_ev p1.2 (by omega)
  have l2 : p2.2.r.b.length ≤ p1.2.r.b.length := by rw [e2]; exact p1.2.cnt_le.1
  have h3 : Ev tab G0 n_entry_reader_count [.ptr 0 0] (inQ p2.2) = some ([i64 p3.1], inQ p3.2) := by rw [e3]; exact qcount_ev p2.2 (by omega)
  have l3 : p3.2.r.b.length ≤ p2.2.r.b.length := by rw [e3]; exact p2.2.cnt_le.1
  have h4 : Ev tab G0 n_entry_reader_count [.ptr 0 0] (inQ p3.2) = some ([i64 p4.1], inQ p4.2) := by rw [e4]; exact qcount_ev p3.2 (by omega)
  have l4 : p4.2.r.b.length ≤ p3.2.r.b.length := by rw [e4]; exact p3.2.cnt_le.1
  have h5 : Ev tab G0 n_entry_reader_count [.ptr 0 0] (inQ p4.2) = some ([i64 p5.1], inQ p5.2) := by rw [e5]; exact qcount_ev p4.2 (by omega)
  have l5 : p5.2.r.b.length ≤ p4.2.r.b.length := by rw [e5]; exact p4.2.cnt_le.1
  have h6 : Ev tab G0 n_entry_reader_count [.ptr 0 0] (inQ p5.2) = some ([i64 p6.1], inQ p6.2) := by rw [e6]; exact qcount_ev p5.2 (by omega)
  have l6 : p6.2.r.b.length ≤ p5.2.r.b.length := by rw [e6]; exact p5.2.cnt_le.1
  have h7 : Ev tab G0 n_entry_reader_count [.ptr 0 0] (inQ p6.2) = some ([i64 p7.1], inQ p7.2) := by rw [e7]; exact qcount_ev p6.2 (by omega)
  have l7 : p7.2.r.b.length ≤ p6.2.r.b.length := by rw [e7]; exact p6.2.cnt_le.1
  have h8 := coder_Byte_k p7.2.r (by omega)
  have l8 : p8.2.r.b.length ≤ p7.2.r.b.length := by rw [e8]; exact p7.2.r.byte_le
  have h9 : Ev tab G0 n_entry_reader_entries [.ptr 0 0] (inQ p8.2) = some ([.sl true (eE p9.1)], inQ p9.2) := by rw [e9]; exact qents_ev p8.2 (by omega)
  have l9 : p9.2.r.b.length ≤ p8.2.r.b.length := by rw [e9]; exact p8.2.ents_le.1
  have m9 : p8.2.bad = true → p9.2.bad = true := fun h => by rw [e9]; exact ents_b h
  have h10 : Ev tab G0 n_entry_reader_members [.ptr 0 0] (inQ p9.2) = some ([.sl true (eI .i64 p10.1)], inQ p10.2) := by rw [e10]; exact qmems_ev p9.2 (by omega)
  have l10 : p10.2.r.b.length ≤ p9.2.r.b.length := by rw [e10]; exact p9.2.mems_le.1
  have m10 : p9.2.bad = true → p10.2.bad = true := fun h => by rw [e10]; exact mems_b h
  have h11 : Ev tab G0 n_entry_reader_count [.ptr 0 0] (inQ p10.2) = some ([i64 p11.1], inQ p11.2) := by rw [e11]; exact qcount_ev p10.2 (by omega)
  have l11 : p11.2.r.b.length ≤ p10.2.r.b.length := by rw [e11]; exact p10.2.cnt_le.1
  have m11 : p10.2.bad = true → p11.2.bad = true := fun h => by rw [e11]; exact cnt_b h
  have h12 : Ev tab G0 n_coder_Reader_Bytes [.ptr 0 0, i64 32] [rO p11.2.r] = some ([.sl true (eB p12.1)], [rO p12.2.r]) := by rw [e12]; exact coder_ReaderBytes_ev p11.2.r 32 (by omega) (by omega)
  have b12 : p12.2.bad = p11.2.bad := by rw [e12]; rfl
  have l12 : p12.2.r.b.length ≤ p11.2.r.b.length := by rw [e12]; exact p11.2.r.bytes_le 32
  have h13 := coder_ReaderBytes_ev p12.2.r 1048576 (by omega) (by omega)
  have l13 := bytes_take p12.2.r 1048576
  have h14 := code_Read_ev (p12.2.r.bytes 1048576).1 (by omega)
  have l14 : p13.2.r.b.length ≤ p12.2.r.b.length := by rw [e13]; exact p12.2.r.bytes_le 1048576
  have h15 : Ev tab G0 n_entry_reader_end [.ptr 0 0] (inQ p13.2) = some ([errV p13.2.fn], inQ p13.2) := qend_ev p13.2 (by omega)
  have hf := p13.2.fn_c
  have m13 : ¬ p13.2.fn = 3 → p13.2.bad = false := fn_b
  have m8 : p11.2.bad = false → p8.2.bad = false := fun h => good_b m9 (good_b m10 (good_b m11 h))
  generalize hff : p13.2.fn = f at *
  clear hff
  clear e1 e2 e3 e4 e5 e6 e7 e9 e10 e11 e12 l1 l2 l3 l4 l5 l6 l7 l8 l9 l10 l11 l12 l13 l14 m9 m10 m11
  have e8a : p8.1 = p7.2.r.kd := by rw [e8]; rfl
  have e8b : p8.2 = ⟨p7.2.r.byte.2, p7.2.bad || decide (1 < p7.2.r.kd)⟩ := by rw [e8]; rfl
  have e13a : p13.1 = rdV (p12.2.r.bytes 1048576).1 := by rw [e13]; rfl
  have e13b : p13.2 = ⟨(p12.2.r.bytes 1048576).2, p12.2.bad || decide (¬ rdC (p12.2.r.bytes 1048576).1 = 0)⟩ := by rw [e13]; rfl
  clear e8 e13
  rw [e8b] at h9 m8
  rw [e13b] at h15 m13
  rw [e13a]
  clear e8b e13a e13b
  generalize p8.1 = x8 at *
  subst e8a
  generalize p7.2.r.kd = kd at *
  generalize p7.2.r.byte.2 = r8 at *
  generalize p12.2.r.bytes 1048576 = z at *
  generalize z.1 = x13 at *
  generalize z.2 = r13 at *
  generalize rdV x13 = t at *
  generalize rdC x13 = c at *
  obtain ⟨x1, q1⟩ := p1
  obtain ⟨x2, q2⟩ := p2
  obtain ⟨x3, q3⟩ := p3
  obtain ⟨x4, q4⟩ := p4
  obtain ⟨x5, q5⟩ := p5
  obtain ⟨x6, q6⟩ := p6
  obtain ⟨x7, ⟨r7, d7⟩⟩ := p7
  obtain ⟨x9, q9⟩ := p9
  obtain ⟨x10, q10⟩ := p10
  obtain ⟨x11, ⟨r11, d11⟩⟩ := p11
  obtain ⟨x12, ⟨r12, d12⟩⟩ := p12
  simp only at *
  subst b12
  rw [avT] at h14
  rcases hf with rfl | rfl | rfl
  · have a := m13 (by decide)
    rw [Bool.or_eq_false_iff, decide_eq_false_iff_not, Decidable.not_not] at a
    obtain ⟨rfl, rfl⟩ := a
    have a := m8 rfl
    rw [Bool.or_eq_false_iff, decide_eq_false_iff_not] at a
    obtain ⟨rfl, hk⟩ := a
    rw [if_pos rfl, errV, if_pos rfl] at *
    rw [decide_eq_false hk] at h9
    exact Rc_false_lt_false_0_0 b hl _ _ _ _ _ _ _ _ _ _ _ _ _ _ _ _ _ _ _ _ _ _ _ _ _ _ _ hk h0 h1 h2 h3 h4 h5 h6 h7 h8 h9 h10 h11 h12 h13 h14 h15
  · clear m13 m8
    rw [if_neg (by decide)]
    rw [errV, if_neg (by decide)] at h15 ⊢
    by_cases hc : c = 0
    · subst hc
      rw [errV, if_pos rfl] at h14
      rw [decide_eq_false (by decide), Bool.or_false] at h15
      cases d7 <;> cases d12 <;> by_cases hk : 1 < kd
      · rw [decide_eq_true hk, Bool.false_or] at h9
        exact Rc_false_gt_false_0_3 b hl _ _ _ _ _ _ _ _ _ _ _ _ _ _ _ _ _ _ _ _ _ _ _ _ _ _ _ hk h0 h1 h2 h3 h4 h5 h6 h7 h8 h9 h10 h11 h12 h13 h14 h15
      · rw [decide_eq_false hk, Bool.false_or] at h9
        exact Rc_false_lt_false_0_3 b hl _ _ _ _ _ _ _ _ _ _ _ _ _ _ _ _ _ _ _ _ _ _ _ _ _ _ _ hk h0 h1 h2 h3 h4 h5 h6 h7 h8 h9 h10 h11 h12 h13 h14 h15
      · rw [decide_eq_true hk, Bool.false_or] at h9
        exact Rc_false_gt_true_0_3 b hl _ _ _ _ _ _ _ _ _ _ _ _ _ _ _ _ _ _ _ _ _ _ _ _ _ _ _ hk h0 h1 h2 h3 h4 h5 h6 h7 h8 h9 h10 h11 h12 h13 h14 h15
      · rw [decide_eq_false hk, Bool.false_or] at h9
        exact Rc_false_lt_true_0_3 b hl _ _ _ _ _ _ _ _ _ _ _ _ _ _ _ _ _ _ _ _ _ _ _ _ _ _ _ hk h0 h1 h2 h3 h4 h5 h6 h7 h8 h9 h10 h11 h12 h13 h14 h15
      · rw [Bool.true_or] at h9
        exact Rc_true_gt_false_0_3 b hl _ _ _ _ _ _ _ _ _ _ _ _ _ _ _ _ _ _ _ _ _ _ _ _ _ _ _ hk h0 h1 h2 h3 h4 h5 h6 h7 h8 h9 h10 h11 h12 h13 h14 h15
      · rw [Bool.true_or] at h9
        exact Rc_true_lt_false_0_3 b hl _ _ _ _ _ _ _ _ _ _ _ _ _ _ _ _ _ _ _ _ _ _ _ _ _ _ _ hk h0 h1 h2 h3 h4 h5 h6 h7 h8 h9 h10 h11 h12 h13 h14 h15
      · rw [Bool.true_or] at h9
        exact Rc_true_gt_true_0_3 b hl _ _ _ _ _ _ _ _ _ _ _ _ _ _ _ _ _ _ _ _ _ _ _ _ _ _ _ hk h0 h1 h2 h3 h4 h5 h6 h7 h8 h9 h10 h11 h12 h13 h14 h15
      · rw [Bool.true_or] at h9
        exact Rc_true_lt_true_0_3 b hl _ _ _ _ _ _ _ _ _ _ _ _ _ _ _ _ _ _ _ _ _ _ _ _ _ _ _ hk h0 h1 h2 h3 h4 h5 h6 h7 h8 h9 h10 h11 h12 h13 h14 h15
    · rw [errV, if_neg hc] at h14
      rw [decide_eq_true hc] at h15
      cases d7 <;> cases d12 <;> by_cases hk : 1 < kd
      · rw [decide_eq_true hk, Bool.false_or] at h9
        rw [Bool.false_or] at h15
        exact Rc_false_gt_false_n_3 b hl _ _ _ _ _ _ _ _ _ _ _ _ _ _ _ _ _ _ _ _ _ _ _ _ _ _ _ _ hk h0 h1 h2 h3 h4 h5 h6 h7 h8 h9 h10 h11 h12 h13 h14 h15
      · rw [decide_eq_false hk, Bool.false_or] at h9
        rw [Bool.false_or] at h15
        exact Rc_false_lt_false_n_3 b hl _ _ _ _ _ _ _ _ _ _ _ _ _ _ _ _ _ _ _ _ _ _ _ _ _ _ _ _ hk h0 h1 h2 h3 h4 h5 h6 h7 h8 h9 h10 h11 h12 h13 h14 h15
      · rw [decide_eq_true hk, Bool.false_or] at h9
        rw [Bool.true_or] at h15
        exact Rc_false_gt_true_n_3 b hl _ _ _ _ _ _ _ _ _ _ _ _ _ _ _ _ _ _ _ _ _ _ _ _ _ _ _ _ hk h0 h1 h2 h3 h4 h5 h6 h7 h8 h9 h10 h11 h12 h13 h14 h15
      · rw [decide_eq_false hk, Bool.false_or] at h9
        rw [Bool.true_or] at h15
        exact Rc_false_lt_true_n_3 b hl _ _ _ _ _ _ _ _ _ _ _ _ _ _ _ _ _ _ _ _ _ _ _ _ _ _ _ _ hk h0 h1 h2 h3 h4 h5 h6 h7 h8 h9 h10 h11 h12 h13 h14 h15
      · rw [Bool.true_or] at h9
        rw [Bool.false_or] at h15
        exact Rc_true_gt_false_n_3 b hl _ _ _ _ _ _ _ _ _ _ _ _ _ _ _ _ _ _ _ _ _ _ _ _ _ _ _ _ hk h0 h1 h2 h3 h4 h5 h6 h7 h8 h9 h10 h11 h12 h13 h14 h15
      · rw [Bool.true_or] at h9
        rw [Bool.false_or] at h15
        exact Rc_true_lt_false_n_3 b hl _ _ _ _ _ _ _ _ _ _ _ _ _ _ _ _ _ _ _ _ _ _ _ _ _ _ _ _ hk h0 h1 h2 h3 h4 h5 h6 h7 h8 h9 h10 h11 h12 h13 h14 h15
      · rw [Bool.true_or] at h9
        rw [Bool.true_or] at h15
        exact Rc_true_gt_true_n_3 b hl _ _ _ _ _ _ _ _ _ _ _ _ _ _ _ _ _ _ _ _ _ _ _ _ _ _ _ _ hk h0 h1 h2 h3 h4 h5 h6 h7 h8 h9 h10 h11 h12 h13 h14 h15
      · rw [Bool.true_or] at h9
        rw [Bool.true_or] at h15
        exact Rc_true_lt_true_n_3 b hl _ _ _ _ _ _ _ _ _ _ _ _ _ _ _ _ _ _ _ _ _ _ _ _ _ _ _ _ hk h0 h1 h2 h3 h4 h5 h6 h7 h8 h9 h10 h11 h12 h13 h14 h15
  · have a := m13 (by decide)
    rw [Bool.or_eq_false_iff, decide_eq_false_iff_not, Decidable.not_not] at a
    obtain ⟨rfl, rfl⟩ := a
    have a := m8 rfl
    rw [Bool.or_eq_false_iff, decide_eq_false_iff_not] at a
    obtain ⟨rfl, hk⟩ := a
    rw [if_neg (by decide)]
    rw [errV, if_neg (by decide)] at h15 ⊢
    rw [errV, if_pos rfl] at h14
    rw [decide_eq_false hk] at h9
    exact Rc_false_lt_false_0_4 b hl _ _ _ _ _ _ _ _ _ _ _ _ _ _ _ _ _ _ _ _ _ _ _ _ _ _ _ hk h0 h1 h2 h3 h4 h5 h6 h7 h8 h9 h10 h11 h12 h13 h14 h15
def G1 (b : List UInt8) : Int × Rq := (q0 b).cnt
def G2 (b : List UInt8) : Int × Rq := (G1 b).2.cnt
def G3 (b : List UInt8) : Int × Rq := (G2 b).2.cnt
def G4 (b : List UInt8) : Int × Rq := (G3 b).2.cnt
def G5 (b : List UInt8) : Int × Rq := (G4 b).2.cnt
def G6 (b : List UInt8) : Int × Rq := (G5 b).2.cnt
def G7 (b : List UInt8) : Int × Rq := (G6 b).2.cnt
def G8 (b : List UInt8) : Int × Rq := (G7 b).2.byt
def G9 (b : List UInt8) : List Ent × Rq := (G8 b).2.ents
def G10 (b : List UInt8) : List Int × Rq := (G9 b).2.mems
def G11 (b : List UInt8) : Int × Rq := (G10 b).2.cnt
def G12 (b : List UInt8) : List UInt8 × Rq := (G11 b).2.bys 32
def G13 (b : List UInt8) : T × Rq := (G12 b).2.tre
def qMsg (b : List UInt8) : MG := ⟨(G1 b).1, (G2 b).1, (G3 b).1, (G4 b).1, (G5 b).1, (G6 b).1, (G7 b).1, decide ((G8 b).1 = 1), (G9 b).1, (G10 b).1, (G11 b).1, (G12 b).1, (G13 b).1⟩
def msC (b : List UInt8) : Int := if 1048576 < b.length then 2 else (G13 b).2.fn
def msV (b : List UInt8) : MG := if msC b = 0 then qMsg b else MG.no
theorem Read_ev (b : List UInt8) (hb : b.length ≤ 1048577) : Ev tab G0 n_entry_Read [.sl true (eB b)] [] = some ([avMsg (msV b), errV (msC b)], []) := by
  by_cases hl : 1048576 < b.length
  · have e1 : msC b = 2 := if_pos hl
    rw [msV, e1, if_neg (by decide)]
    exact Read_evL b hl hb
  · have e1 : msC b = (G13 b).2.fn := if_neg hl
    rw [msV, e1]
    exact Read_chain b hl (G1 b) (G2 b) (G3 b) (G4 b) (G5 b) (G6 b) (G7 b) (G8 b) (G9 b) (G10 b) (G11 b) (G12 b) (G13 b) rfl rfl rfl rfl rfl rfl rfl rfl rfl rfl rfl rfl rfl

end Go.Proofs.Ytkfaahjcncpmhaa
namespace Go.Proofs.Ytkfaahjcncpmhaa
open Go.Ev

theorem beB_cons : ∀ (f : Nat) (v : Int), beB (f + 1) v = byt (v / 256 ^ f) :: beB f v := by
  intro f
  induction f with
  | zero => intro v; simp [beB]
  | succ f ih =>
    intro v
    rw [beB, ih (v / 256), beB]
    have : v / 256 / 256 ^ f = v / 256 ^ (f + 1) := by
      rw [Int.ediv_ediv_of_nonneg (by decide)]
      congr 1
      rw [Int.pow_succ, Int.mul_comm]
    simp [this]
theorem beV_beB : ∀ (k : Nat) (v : Int), 0 ≤ v → v < 256 ^ k → beV (beB k v) = v
  | 0, v, h0, h1 => by
    simp at h1
    obtain rfl : v = 0 := by omega
    rfl
  | k + 1, v, h0, h1 => by
    have : v < 256 ^ k * 256 := by rw [← Int.pow_succ]; exact h1
    rw [beB, beV_snoc, beV_beB k (v / 256) (by omega) (by omega), toNat_byt]
    omega
theorem nby_spec : ∀ (k : Nat) (v : Int), 0 < v → v < 256 ^ k → ∃ m, nby k v = m + 1 ∧ 256 ^ m ≤ v ∧ v < 256 ^ (m + 1)
  | 0, v, h0, h1 => by simp at h1; omega
  | k + 1, v, h0, h1 => by
    have h2 : v < 256 ^ k * 256 := by rw [← Int.pow_succ]; exact h1
    simp only [nby]
    rw [if_neg (by omega)]
    by_cases hv : v / 256 = 0
    · refine ⟨0, ?_, by simp; omega, by simp; omega⟩
      rw [hv]
      cases k <;> simp [nby]
    · obtain ⟨m, e, h3, h4⟩ := nby_spec k (v / 256) (by omega) (by omega)
      refine ⟨m + 1, by rw [e], ?_, ?_⟩
      · rw [Int.pow_succ]; omega
      · rw [Int.pow_succ]; omega
theorem byt_small {n : Int} (h : 0 ≤ n ∧ n < 256) : ((byt n).toNat : Int) = n := by
  rw [toNat_byt]; omega
theorem read_num (v : Int) (h : 0 ≤ v ∧ v < 18446744073709551616) (rest : List UInt8) : Rd.num ⟨num v ++ rest, false⟩ = (v, ⟨rest, false⟩) := by
  have hb : ∀ (b : UInt8) (l : List UInt8), Rd.byte ⟨b :: l, false⟩ = (b, ⟨l, false⟩) := fun b l => by
    simp only [Rd.byte, Rd.take, Bool.false_eq_true, if_false, List.length_cons]
    rw [if_neg (by omega)]
    rfl
  unfold num
  by_cases hv : v ≤ 247
  · rw [if_pos hv, List.cons_append, List.nil_append]
    have h1 := byt_small (n := v) (by omega)
    simp only [Rd.num, hb]
    rw [if_pos (by omega), h1]
  · rw [if_neg hv, List.cons_append]
    obtain ⟨m, e, h3, h4⟩ := nby_spec 8 v (by omega) (by omega)
    have hm := nby_le 8 v
    have h1 := byt_small (n := 247 + nby 8 v) (by omega)
    simp only [Rd.num, hb]
    rw [if_neg (by omega)]
    have hn : ((byt (247 + nby 8 v)).toNat : Int) - 247 = nby 8 v := by omega
    have ht : Rd.take ⟨beB (nby 8 v) v ++ rest, false⟩ ((byt (247 + nby 8 v)).toNat - 247) = (beB (nby 8 v) v, ⟨rest, false⟩) := by
      rw [hn]
      have hl := beB_len (nby 8 v) v
      simp only [Rd.take, Bool.false_eq_true, if_false, List.length_append, hl]
      rw [if_neg (by omega), Int.toNat_natCast, List.take_left' hl, List.drop_left' hl]
    rw [ht]
    have hV := beV_beB (nby 8 v) v h.1 (by rw [e]; exact h4)
    simp only [hV]
    rw [if_neg]
    rw [e, beB_cons]
    have hq : 1 ≤ v / 256 ^ m ∧ v / 256 ^ m < 256 := by
      have hp : (0 : Int) < 256 ^ m := Int.pow_pos (by decide)
      refine ⟨?_, ?_⟩
      · rw [Int.le_ediv_iff_mul_le hp]; omega
      · rw [Int.ediv_lt_iff_lt_mul hp, Int.mul_comm, ← Int.pow_succ]; exact h4
    have h5 := byt_small (n := v / 256 ^ m) (by omega)
    simp only [List.length_cons, List.getD_cons_zero]
    rintro (hh | hh | hh)
    · omega
    · rw [hh] at h5; simp at h5; omega
    · omega
theorem read_byts (b : List UInt8) (hb : b.length ≤ 1073741824) (most : Int) (hm : b.length ≤ most) (rest : List UInt8) : Rd.bytes ⟨byts b ++ rest, false⟩ most = (b, ⟨rest, false⟩) := by
  have h := read_num b.length (by omega) (b ++ rest)
  simp only [Rd.bytes, byts, List.append_assoc, h, Bool.false_eq_true, false_or, List.length_append]
  rw [if_neg (by omega)]
  simp only [Rd.take, Bool.false_eq_true, if_false, List.length_append]
  rw [if_neg (by omega), Int.toNat_natCast, List.take_left' rfl, List.drop_left' rfl]
theorem num_prefix {v u : Int} (hv : 0 ≤ v ∧ v < 18446744073709551616) (hu : 0 ≤ u ∧ u < 18446744073709551616) {s : List UInt8} (h : num u = num v ++ s) : u = v := by
  have h1 := read_num u hu []
  have h2 := read_num v hv s
  rw [List.append_nil, h, h2] at h1
  simp only [Prod.mk.injEq] at h1
  exact h1.1.symm

end Go.Proofs.Ytkfaahjcncpmhaa
namespace Go.Proofs.Ytkfaahjcncpmhaa
open Go.Ev

theorem byte_cons (k : UInt8) (rest : List UInt8) : Rd.byte ⟨k :: rest, false⟩ = (k, ⟨rest, false⟩) := by
  simp [Rd.byte, Rd.take]
  rw [if_neg (by omega)]
  simp
theorem rd_wr : ∀ t : T, t.formed = true → ∀ (d : Nat) (rest : List UInt8), d ≤ 64 → t.size ≤ 1048576 → t.long = false → t.deep d = false → rdT d ⟨t.wr ++ rest, false⟩ false = (t, ⟨rest, false⟩, false) := F_ind
  (fun t hf h0 d rest hd hs hg hdp => by
    have ho := hd_kind hf
    have hz := size_eq t
    unfold okT at ho
    rw [h0] at ho
    simp only [List.length_nil] at ho
    rw [long_eq] at hg
    simp only [Bool.or_eq_false_iff, decide_eq_false_iff_not] at hg
    rw [wr_nil h0]
    have hk : t.kind = 0 ∨ t.kind = 3 := by omega
    rcases hk with hk | hk
    · have e := byte_cons (byt 0) rest
      have hkd : Rd.kd ⟨byt 0 :: rest, false⟩ = 0 := by unfold Rd.kd; rw [e]; rfl
      have n1 : t.key = [] := List.length_eq_zero_iff.1 (by omega)
      have n2 : t.value = [] := List.length_eq_zero_iff.1 (by omega)
      have n3 : t.digest = [] := List.length_eq_zero_iff.1 (by omega)
      unfold hdB
      rw [hk, if_neg (by omega), if_neg (by omega), if_neg (by omega)]
      show rdT d ⟨byt 0 :: rest, false⟩ false = _
      rw [rdT_z d false (.inl hkd), hdT_z hkd, hkd, e]
      conv => rhs; rw [← T_eta t, hk, n1, n2, n3, h0]
    · have e := byte_cons (byt 3) (byts t.digest ++ rest)
      have hkd : Rd.kd ⟨byt 3 :: (byts t.digest ++ rest), false⟩ = 3 := by unfold Rd.kd; rw [e]; rfl
      have n1 : t.key = [] := List.length_eq_zero_iff.1 (by omega)
      have n2 : t.value = [] := List.length_eq_zero_iff.1 (by omega)
      have hr := read_byts t.digest (by omega) 32 (by omega) rest
      unfold hdB
      rw [hk, if_neg (by omega), if_neg (by omega), if_pos rfl]
      show rdT d ⟨byt 3 :: (byts t.digest ++ rest), false⟩ false = _
      rw [rdT_z d false (.inr hkd), hdT_3 hkd, e]
      simp only
      rw [hr]
      conv => rhs; rw [← T_eta t, hk, n1, n2, h0])
  fun t l r hf h0 hl hr il ir d rest hd hs hg hdp => by
    have ho := hd_kind hf
    have hz := size_two h0
    unfold okT at ho
    rw [h0] at ho
    simp only [List.length_cons, List.length_nil] at ho
    rw [long_eq, h0, longL_cons, longL_cons, longL_nil] at hg
    simp only [Bool.or_eq_false_iff, decide_eq_false_iff_not] at hg
    have hk : t.kind = 1 ∨ t.kind = 2 := by omega
    rw [deep_eq, h0] at hdp
    cases d with
    | zero =>
      rw [if_pos (by refine ⟨by omega, rfl⟩)] at hdp
      cases hdp
    | succ d =>
      rw [if_neg (by omega)] at hdp
      simp only [deepL, Bool.or_eq_false_iff] at hdp
      have ed : ((d + 1 : Nat) : Int) - 1 = d := by omega
      rw [ed] at hdp
      have i1 := il d (r.wr ++ rest) (by omega) (by omega) hg.2.1 hdp.1
      have i2 := ir d rest (by omega) (by omega) hg.2.2.1 hdp.2.1
      rw [wr_two h0]
      rcases hk with hk | hk
      · have n3 : t.digest = [] := List.length_eq_zero_iff.1 (by omega)
        have e := byte_cons (byt 1) (byts t.key ++ (byts t.value ++ (l.wr ++ (r.wr ++ rest))))
        have hkd : Rd.kd ⟨byt 1 :: (byts t.key ++ (byts t.value ++ (l.wr ++ (r.wr ++ rest)))), false⟩ = 1 := by unfold Rd.kd; rw [e]; rfl
        have r1 := read_byts t.key (by omega) 80 (by omega) (byts t.value ++ (l.wr ++ (r.wr ++ rest)))
        have r2 := read_byts t.value (by omega) 1024 (by omega) (l.wr ++ (r.wr ++ rest))
        have hh : hdT ⟨byt 1 :: (byts t.key ++ (byts t.value ++ (l.wr ++ (r.wr ++ rest)))), false⟩ = (.mk 1 t.key t.value [] [], ⟨l.wr ++ (r.wr ++ rest), false⟩) := by
          rw [hdT_1 hkd, e]
          simp only [r1, r2]
        unfold hdB
        rw [hk, if_pos rfl]
        simp only [List.cons_append, List.append_assoc]
        rw [rdT_d d false (by omega) (by rw [hh]; simp; omega), hh]
        simp only [i1, i2, T.with]
        conv => rhs; rw [← T_eta t, hk, n3, h0]
        rfl
      · have n3 : t.value = [] := List.length_eq_zero_iff.1 (by omega)
        have e := byte_cons (byt 2) (byts t.key ++ (byts t.digest ++ (l.wr ++ (r.wr ++ rest))))
        have hkd : Rd.kd ⟨byt 2 :: (byts t.key ++ (byts t.digest ++ (l.wr ++ (r.wr ++ rest)))), false⟩ = 2 := by unfold Rd.kd; rw [e]; rfl
        have r1 := read_byts t.key (by omega) 80 (by omega) (byts t.digest ++ (l.wr ++ (r.wr ++ rest)))
        have r2 := read_byts t.digest (by omega) 32 (by omega) (l.wr ++ (r.wr ++ rest))
        have hh : hdT ⟨byt 2 :: (byts t.key ++ (byts t.digest ++ (l.wr ++ (r.wr ++ rest)))), false⟩ = (.mk 2 t.key [] t.digest [], ⟨l.wr ++ (r.wr ++ rest), false⟩) := by
          rw [hdT_2 hkd, e]
          simp only [r1, r2]
        unfold hdB
        rw [hk, if_neg (by omega), if_pos rfl]
        simp only [List.cons_append, List.append_assoc]
        rw [rdT_d d false (by omega) (by rw [hh]; simp; omega), hh]
        simp only [i1, i2, T.with]
        conv => rhs; rw [← T_eta t, hk, n3, h0]
        rfl

end Go.Proofs.Ytkfaahjcncpmhaa
namespace Go.Proofs.Ytkfaahjcncpmhaa
open Go.Ev

theorem beB_beV : ∀ (n : Nat) (l : List UInt8), l.length = n → beB n (beV l) = l := fun n => by
  induction n with
  | zero => intro l h; have := List.length_eq_zero_iff.1 h; subst this; rfl
  | succ n ih =>
    intro l h
    rcases List.eq_nil_or_concat l with rfl | ⟨l', x, rfl⟩
    · simp at h
    · rw [List.concat_eq_append] at h ⊢
      simp at h
      have hx := x.toNat_lt
      have hv := beV_nn l'
      have e1 : (beV l' * 256 + (x.toNat : Int)) / 256 = beV l' := by omega
      have e2 : byt (beV l' * 256 + (x.toNat : Int)) = x := by
        apply UInt8.toNat_inj.1
        have := toNat_byt (n := beV l' * 256 + (x.toNat : Int))
        omega
      rw [beV_snoc, beB, e1, ih l' h, e2]
theorem beV_lo : ∀ (n : Nat) (x : UInt8) (l : List UInt8), l.length = n → x.toNat * 256 ^ n ≤ beV (x :: l) := fun n => by
  induction n with
  | zero => intro x l h; have := List.length_eq_zero_iff.1 h; subst this; simp [beV]
  | succ n ih =>
    intro x l h
    rcases List.eq_nil_or_concat l with rfl | ⟨l', y, rfl⟩
    · simp at h
    · rw [List.concat_eq_append] at h ⊢
      simp at h
      have h1 := ih x l' h
      rw [← List.cons_append, beV_snoc, Int.pow_succ, ← Int.mul_assoc]
      have := y.toNat_lt
      generalize (x.toNat : Int) * 256 ^ n = p at *
      omega
theorem nby_beV (l : List UInt8) (h1 : 1 ≤ l.length ∧ l.length ≤ 8) (h2 : ¬ l.getD 0 0 = 0) : nby 8 (beV l) = l.length ∧ 0 < beV l := by
  cases l with
  | nil => simp at h1
  | cons x l =>
    simp only [List.getD_cons_zero] at h2
    have hx : 1 ≤ x.toNat := by
      apply Nat.one_le_iff_ne_zero.2
      intro h
      exact h2 (UInt8.toNat_inj.1 (by simpa using h))
    have hlo := beV_lo l.length x l rfl
    have hp : (0 : Int) < 256 ^ l.length := Int.pow_pos (by decide)
    have hlo2 : (256 : Int) ^ l.length ≤ beV (x :: l) := by
      refine Int.le_trans ?_ hlo
      have : (1 : Int) * 256 ^ l.length ≤ x.toNat * 256 ^ l.length := Int.mul_le_mul_of_nonneg_right (by omega) (Int.le_of_lt hp)
      omega
    have hhi := (beV_nn (x :: l)).2
    have h8 := beV_lt (l := x :: l) (n := 8) h1.2 (by omega)
    obtain ⟨m, e, a1, a2⟩ := nby_spec 8 (beV (x :: l)) (by omega) h8.2
    generalize beV (x :: l) = v at *
    simp only [List.length_cons] at *
    refine ⟨?_, by omega⟩
    rw [e]
    have c1 : ((256 ^ m : Nat) : Int) < ((256 ^ (l.length + 1) : Nat) : Int) := by
      push_cast
      omega
    have c2 : ((256 ^ l.length : Nat) : Int) < ((256 ^ (m + 1) : Nat) : Int) := by
      push_cast
      omega
    have d1 := (Nat.pow_lt_pow_iff_right (a := 256) (by decide)).1 (Int.ofNat_lt.1 c1)
    have d2 := (Nat.pow_lt_pow_iff_right (a := 256) (by decide)).1 (Int.ofNat_lt.1 c2)
    omega
theorem take_inv {b : List UInt8} {n : Int} (h : (Rd.take ⟨b, false⟩ n).2.bad = false) (hn : 0 ≤ n) : b = (Rd.take ⟨b, false⟩ n).1 ++ (Rd.take ⟨b, false⟩ n).2.b ∧ ((Rd.take ⟨b, false⟩ n).1.length : Int) = n := by
  unfold Rd.take at *
  simp only [Bool.false_eq_true, if_false] at *
  split at h
  · cases h
  · rename_i hl
    rw [if_neg hl]
    simp only [List.take_append_drop, List.length_take, true_and]
    omega
theorem byte_inv {b : List UInt8} (h : (Rd.byte ⟨b, false⟩).2.bad = false) : b = (Rd.byte ⟨b, false⟩).1 :: (Rd.byte ⟨b, false⟩).2.b := by
  unfold Rd.byte at *
  simp only at *
  obtain ⟨h1, h2⟩ := take_inv h (by decide)
  generalize Rd.take ⟨b, false⟩ 1 = q at *
  obtain ⟨l, r⟩ := q
  simp only at *
  match l, h2 with
  | [x], _ => simpa using h1
theorem bf {r : Rd} (h : r.bad = false) : r = ⟨r.b, false⟩ := by cases r; simp only at h; rw [h]
theorem num_inv {r : Rd} (h : r.num.2.bad = false) : r.b = num r.num.1 ++ r.num.2.b := by
  have hb := num_nb h
  obtain ⟨b, x⟩ := r
  simp only at hb
  subst hb
  have hc := (Rd.byte ⟨b, false⟩).1.toNat_lt
  have key : (Rd.byte ⟨b, false⟩).2.bad = false := by
    cases e : (Rd.byte ⟨b, false⟩).2.bad
    · rfl
    · unfold Rd.num at h
      split at h
      · rw [e] at h; cases h
      · simp only at h
        split at h
        · cases h
        · unfold Rd.take at h
          rw [if_pos e] at h
          cases h
  have h1 := byte_inv key
  unfold Rd.num at *
  generalize Rd.byte ⟨b, false⟩ = q at *
  obtain ⟨c, b1, x1⟩ := q
  simp only at key
  subst key
  simp only at *
  by_cases hc2 : c.toNat ≤ 247
  · rw [if_pos hc2]
    simp only
    unfold num
    rw [if_pos (by omega), h1]
    have : byt (c.toNat : Int) = c := by
      apply UInt8.toNat_inj.1
      have := toNat_byt (n := (c.toNat : Int))
      omega
    rw [this]
    rfl
  · rw [if_neg hc2] at h ⊢
    split at h
    · cases h
    · rename_i hx
      rw [if_neg hx]
      obtain ⟨a1, a2⟩ := take_inv h (by omega)
      generalize Rd.take ⟨b1, false⟩ (c.toNat - 247) = p at *
      obtain ⟨l, r2⟩ := p
      simp only at *
      obtain ⟨n1, n2⟩ := nby_beV l (by omega) (fun e => hx (.inr (.inl e)))
      unfold num
      rw [if_neg (by omega), n1, beB_beV l.length l rfl, h1]
      have : byt (247 + (l.length : Int)) = c := by
        apply UInt8.toNat_inj.1
        have := toNat_byt (n := 247 + (l.length : Int))
        omega
      rw [this, a1]
      rfl
theorem bytes_inv {r : Rd} {m : Int} (h : (r.bytes m).2.bad = false) : r.b = byts (r.bytes m).1 ++ (r.bytes m).2.b ∧ ((r.bytes m).1.length : Int) ≤ m := by
  have hn := r.num_le
  simp only [Rd.bytes] at *
  split at h
  · cases h
  · rename_i hc
    rw [if_neg hc]
    have hq : r.num.2.bad = false := by
      cases e : r.num.2.bad
      · rfl
      · exact absurd (.inl e) hc
    have h1 := num_inv hq
    rw [bf hq] at h ⊢
    obtain ⟨a1, a2⟩ := take_inv h hn.2.1
    generalize r.num = q at *
    obtain ⟨v, r1⟩ := q
    simp only at *
    generalize Rd.take ⟨r1.b, false⟩ v = p at *
    obtain ⟨l, r2⟩ := p
    simp only at *
    unfold byts
    rw [a2, h1, a1, List.append_assoc]
    exact ⟨rfl, by omega⟩
theorem hdT_inv {r : Rd} (h : (hdT r).2.bad = false) (hk : r.kd ≤ 3) : r.b = (hdT r).1.wr ++ (hdT r).2.b ∧ (hdT r).1.kids = [] ∧ (hdT r).1.kind = r.kd ∧ (hdT r).1.key.length ≤ 80 ∧ (hdT r).1.value.length ≤ 1024 ∧ (hdT r).1.digest.length ≤ 32 ∧ (¬ r.kd = 1 → (hdT r).1.value.length = 0) ∧ (r.kd = 1 → (hdT r).1.digest.length = 0) ∧ (r.kd = 0 ∨ r.kd = 3 → (hdT r).1.key.length = 0) ∧ (r.kd = 0 → (hdT r).1.digest.length = 0) := by
  have hkp := r.kd_le
  have hb0 := (hdT_sz h).2.2
  have hkb : byt r.kd = r.byte.1 := by
    apply UInt8.toNat_inj.1
    have := toNat_byt (n := r.kd)
    have := r.byte.1.toNat_lt
    unfold Rd.kd at *
    omega
  have hby : r.byte.2.bad = false → r.b = r.byte.1 :: r.byte.2.b := fun e => by
    rw [bf hb0] at e ⊢
    exact byte_inv e
  by_cases k3 : r.kd = 3
  · rw [hdT_3 k3] at *
    have h1 := bytes_inv h
    have h2 := hby (bytes_sz h).2
    simp only [wr_nil (T_kids), T_kids, T_kind, T_key, T_value, T_digest, List.length_nil] at *
    rw [k3] at hkb
    unfold hdB
    rw [if_neg (by omega), if_neg (by omega), if_pos rfl, hkb, h2]
    refine ⟨?_, ?_⟩
    · rw [h1.1]; rfl
    · and_intros <;> (try intros) <;> first | rfl | trivial | omega
  · by_cases k1 : r.kd = 1
    · rw [hdT_1 k1] at *
      have h1 := bytes_inv h
      have h2 := bytes_inv (bytes_sz h).2
      have h3 := hby (bytes_sz (bytes_sz h).2).2
      simp only [wr_nil (T_kids), T_kids, T_kind, T_key, T_value, T_digest, List.length_nil] at *
      rw [k1] at hkb
      unfold hdB
      rw [if_pos rfl, hkb, h3]
      refine ⟨?_, ?_⟩
      · rw [h2.1, h1.1]; simp
      · and_intros <;> (try intros) <;> first | rfl | trivial | omega
    · by_cases k2 : r.kd = 2
      · rw [hdT_2 k2] at *
        have h1 := bytes_inv h
        have h2 := bytes_inv (bytes_sz h).2
        have h3 := hby (bytes_sz (bytes_sz h).2).2
        simp only [wr_nil (T_kids), T_kids, T_kind, T_key, T_value, T_digest, List.length_nil] at *
        rw [k2] at hkb
        unfold hdB
        rw [if_neg (by omega), if_pos rfl, hkb, h3]
        refine ⟨?_, ?_⟩
        · rw [h2.1, h1.1]; simp
        · and_intros <;> (try intros) <;> first | rfl | trivial | omega
      · rw [hdT_x k3 k1 k2] at *
        have h3 := hby h
        simp only [wr_nil (T_kids), T_kids, T_kind, T_key, T_value, T_digest, List.length_nil] at *
        unfold hdB
        rw [if_neg (by omega), if_neg (by omega), if_neg (by omega), hkb]
        refine ⟨?_, ?_⟩
        · rw [h3]; rfl
        · and_intros <;> (try intros) <;> first | rfl | trivial | omega
theorem hd_good {r : Rd} (hk : r.kd = 0 ∨ r.kd = 3) (hz : (hdT r).2.bad = false) (d : Int) : r.b = (hdT r).1.wr ++ (hdT r).2.b ∧ (hdT r).1.formed = true ∧ (hdT r).1.long = false ∧ (hdT r).1.deep d = false := by
  have h := hdT_inv hz (by omega)
  obtain ⟨a1, a2, a3, a4, a5, a6, a7, a8, a9, a10⟩ := h
  refine ⟨a1, ?_, ?_, ?_⟩
  · rw [formed_eq, a2]
    simp only [formedL, Bool.and_true, decide_eq_true_eq]
    unfold okT
    rw [a2]
    rcases hk with hk | hk
    · exact .inl ⟨by omega, a9 (.inl hk), a7 (by omega), a10 hk, rfl⟩
    · exact .inr (.inr (.inr ⟨by omega, a9 (.inr hk), a7 (by omega), rfl⟩))
  · rw [long_eq, a2, longL_nil, Bool.or_false]
    simp only [decide_eq_false_iff_not]
    omega
  · rw [deep_eq, a2, if_neg (by simp only [List.length_nil]; omega)]
    rfl
theorem with_kids (t : T) (l : List T) : (t.with l).kids = l := rfl
theorem wr_rd : ∀ (d : Nat) (r : Rd), d ≤ 64 → (rdT d r false).2.2 = false → (rdT d r false).2.1.bad = false → r.b = (rdT d r false).1.wr ++ (rdT d r false).2.1.b ∧ (rdT d r false).1.formed = true ∧ (rdT d r false).1.long = false ∧ (rdT d r false).1.deep d = false := fun d => by
  induction d with
  | zero =>
    intro r hd hx hz
    by_cases h0 : r.kd = 0 ∨ r.kd = 3
    · rw [rdT_z 0 false h0] at *
      exact hd_good h0 hz _
    · rw [rdT_x 0 false h0 (.inl rfl)] at hx
      cases hx
  | succ d ih =>
    intro r hd hx hz
    by_cases h0 : r.kd = 0 ∨ r.kd = 3
    · rw [rdT_z (d + 1) false h0] at *
      exact hd_good h0 hz _
    · by_cases h1 : (¬ r.kd = 1 ∧ ¬ r.kd = 2) ∨ (hdT r).2.bad = true ∨ false = true
      · rw [rdT_x (d + 1) false h0 (.inr h1)] at hx
        cases hx
      · rw [rdT_d d false h0 h1] at *
        simp only at hx hz ⊢
        have hy : (hdT r).2.bad = false := by
          cases e : (hdT r).2.bad
          · rfl
          · exact absurd (.inr (.inl e)) h1
        have hp : (rdT d (hdT r).2 false).2.2 = false := by
          cases e : (rdT d (hdT r).2 false).2.2
          · rfl
          · rw [e, rdT_bad] at hx
            cases hx
        have hp2 : (rdT d (hdT r).2 false).2.1.bad = false := by
          cases e : (rdT d (hdT r).2 false).2.1.bad
          · rfl
          · rw [rdT_rbad d _ _ e] at hz
            cases hz
        have i1 := ih (hdT r).2 (by omega) hp hp2
        rw [hp] at hx hz ⊢
        have i2 := ih _ (by omega) hx hz
        have hk := r.kd_le
        obtain ⟨a1, a2, a3, a4, a5, a6, a7, a8, a9, a10⟩ := hdT_inv hy (by omega)
        generalize rdT d (hdT r).2 false = p at *
        obtain ⟨u, r1, x1⟩ := p
        simp only at *
        generalize rdT d r1 false = q at *
        obtain ⟨v, r2, x2⟩ := q
        simp only at *
        generalize hdT r = g at *
        obtain ⟨t, r0⟩ := g
        simp only at *
        have e1 : t.wr = hdB t.kind t.key t.value t.digest := wr_nil a2
        refine ⟨?_, ?_, ?_, ?_⟩
        · rw [wr_two (t := t.with [u, v]) rfl, a1, e1, i1.1, i2.1]
          simp only [List.append_assoc]
          rfl
        · rw [formed_eq, with_kids]
          simp only [formedL, i1.2.1, i2.2.1, Bool.and_true, decide_eq_true_eq]
          unfold okT
          rw [with_kids]
          show _ ∨ (t.kind = 1 ∧ t.key.length ≤ 80 ∧ t.value.length ≤ 1024 ∧ t.digest.length = 0 ∧ _) ∨ (t.kind = 2 ∧ t.key.length ≤ 80 ∧ t.value.length = 0 ∧ _) ∨ _
          simp only [List.length_cons, List.length_nil]
          have : r.kd = 1 ∨ r.kd = 2 := by omega
          rcases this with h | h
          · exact .inr (.inl ⟨by omega, a4, a5, a8 h, trivial⟩)
          · exact .inr (.inr (.inl ⟨by omega, a4, a7 (by omega), trivial⟩))
        · rw [long_eq, with_kids, longL_cons, longL_cons, longL_nil, i1.2.2.1, i2.2.2.1]
          show (decide (32 < t.digest.length) || _) = false
          simp only [Bool.or_false, decide_eq_false_iff_not]
          omega
        · rw [deep_eq, if_neg (by omega), with_kids]
          have ed : ((d + 1 : Nat) : Int) - 1 = d := by omega
          rw [ed]
          simp only [deepL, i1.2.2.2, i2.2.2.2, Bool.or_false]
/-- What was read without fault. -/
theorem rdC_ok {b : List UInt8} (h : ¬ rdC b = 3) : ∃ t r, rdR b = (t, r, false) ∧ r.bad = false ∧ b = t.wr ++ r.b ∧ t.formed = true ∧ t.long = false ∧ t.deep 64 = false ∧ (rdC b = if r.b.length > 0 then 4 else 0) := by
  have e := wr_rd 64 ⟨b, false⟩ (Nat.le_refl _)
  unfold rdC at *
  change (rdR b).2.2 = false → (rdR b).2.1.bad = false → b = (rdR b).1.wr ++ (rdR b).2.1.b ∧ (rdR b).1.formed = true ∧ (rdR b).1.long = false ∧ (rdR b).1.deep (64 : Nat) = false at e
  generalize rdR b = p at *
  obtain ⟨t, r, x⟩ := p
  simp only at *
  cases x
  · simp only [Bool.false_eq_true, if_false] at h ⊢
    unfold Rd.fin at h ⊢
    cases hb : r.bad
    · rw [hb] at h
      simp only [Bool.false_eq_true, if_false] at h ⊢
      obtain ⟨e1, e2, e3, e4⟩ := e rfl hb
      exact ⟨t, r, rfl, hb, e1, e2, e3, e4, rfl⟩
    · rw [hb] at h
      exact absurd rfl h
  · exact absurd (if_pos rfl) h
theorem chk_of {t : T} (hf : t.formed = true) (hd : t.deep 64 = false) : t.chk = 0 := by
  unfold T.chk
  rw [hd, hf]
  rfl
theorem back_1 {b : List UInt8} (h : rdC b = 0) : wrC (rdV b) = 0 ∧ (rdV b).wr = b := by
  obtain ⟨t, r, e1, e2, e3, e4, e5, e6, e7⟩ := rdC_ok (b := b) (by omega)
  have hv : rdV b = t := by unfold rdV; rw [if_pos h, e1]
  have hl : r.b = [] := by
    rw [h] at e7
    split at e7
    · cases e7
    · exact List.length_eq_zero_iff.1 (by omega)
  rw [hv, wrC_good (chk_of e4 e6) e5, e3, hl, List.append_nil]
  exact ⟨rfl, rfl⟩
theorem wrC_ok {t : T} (h : wrC t = 0) : t.formed = true ∧ t.long = false ∧ t.deep 64 = false := by
  have hc : t.chk = 0 := by
    by_cases hc : t.chk = 0
    · exact hc
    · rw [wrC_bad hc] at h
      exact h
  refine ⟨chk_formed hc, ?_, ?_⟩
  · cases hg : t.long
    · rfl
    · rw [wrC_long hc hg] at h
      cases h
  · unfold T.chk at hc
    split at hc
    · cases hc
    · rename_i hd
      simpa using hd
theorem back_0 {t : T} (h : wrC t = 0) (hs : t.size ≤ 1048576) (rest : List UInt8) : rdR (t.wr ++ rest) = (t, ⟨rest, false⟩, false) := by
  obtain ⟨h1, h2, h3⟩ := wrC_ok h
  exact rd_wr t h1 64 rest (Nat.le_refl _) hs h2 h3
theorem back_2 {t : T} (h : wrC t = 0) (hs : t.size ≤ 1048576) : rdC t.wr = 0 ∧ rdV t.wr = t := by
  have e := back_0 h hs []
  rw [List.append_nil] at e
  have hc : rdC t.wr = 0 := by
    unfold rdC
    rw [e]
    rfl
  refine ⟨hc, ?_⟩
  unfold rdV
  rw [if_pos hc, e]
theorem back_4 {t : T} (h : wrC t = 0) (hs : t.size ≤ 1048576) (x : UInt8) : rdC (t.wr ++ [x]) = 4 := by
  have e := back_0 h hs [x]
  unfold rdC
  rw [e]
  rfl
theorem wr_pos (t : T) : 0 < t.wr.length := by
  rw [wr_eq]
  unfold hdB
  simp
theorem wr_one {t : T} (hf : t.formed = true) (hg : t.long = false) : (hdB t.kind t.key t.value t.digest).length ≤ 1200 := by
  have h := hdB_len t.kind t.key t.value t.digest
  have ho := hd_kind hf
  rw [long_eq] at hg
  simp only [Bool.or_eq_false_iff, decide_eq_false_iff_not] at hg
  unfold okT at ho
  omega
theorem wr_light : ∀ t : T, t.formed = true → t.long = false → ∀ left d : Int, 0 ≤ left → 0 ≤ t.light left d → (t.wr.length : Int) ≤ 1200 * (left - t.light left d) := F_ind
  (fun t hf h hg left d hle hp => by
    have h1 := wr_one hf hg
    rw [wr_nil h]
    rw [light_eq, h] at *
    split at hp
    · omega
    · rename_i hc
      rw [if_neg hc]
      simp only [lightL]
      omega)
  fun t l r hf h _ _ i1 i2 hg left d hle hp => by
    have h1 := wr_one hf hg
    rw [wr_two h, List.length_append, List.length_append]
    rw [long_eq, h, longL_cons, longL_cons, longL_nil] at hg
    simp only [Bool.or_eq_false_iff, decide_eq_false_iff_not] at hg
    rw [light_eq, h] at *
    split at hp
    · omega
    · rename_i hc
      rw [if_neg hc]
      simp only [lightL] at hp ⊢
      have a1 := i1 hg.2.1 (left - 1) (d - 1) (by omega)
      split at hp
      · omega
      · rename_i hq
        rw [if_neg hq]
        have a2 := i2 hg.2.2.1 (l.light (left - 1) (d - 1)) (d - 1) (by omega)
        split at hp
        · omega
        · rename_i hw
          rw [if_neg hw]
          omega
theorem wr_small {t : T} (h : wrC t = 0) (hl : 0 ≤ t.light 300 200) : t.wr.length ≤ 360000 := by
  obtain ⟨h1, h2, h3⟩ := wrC_ok h
  have := wr_light t h1 h2 300 200 (by omega) hl
  omega
theorem rdT_szR {b : List UInt8} (h : (rdR b).2.1.bad = false) : (rdR b).1.size ≤ b.length := by
  have := rdT_sz 64 ⟨b, false⟩ false h
  change (rdR b).1.size + _ ≤ b.length at this
  omega
theorem back_3 {t : T} (h : wrC t = 0) (hs : t.size ≤ 1048576) (hl : 0 ≤ t.light 300 200) : rdC t.wr.dropLast = 3 := by
  by_cases hc : rdC t.wr.dropLast = 3
  · exact hc
  · exfalso
    obtain ⟨u, r, e1, e2, e3, e4, e5, e6, e7⟩ := rdC_ok hc
    have hu : wrC u = 0 := wrC_good (chk_of e4 e6) e5
    have hsm := wr_small h hl
    have hsz : u.size ≤ 1048576 := by
      have := rdT_szR (b := t.wr.dropLast) (by rw [e1]; exact e2)
      rw [e1] at this
      simp only [List.length_dropLast] at this
      omega
    have h1 := back_0 h hs []
    have hne : t.wr ≠ [] := by
      intro hn
      have := wr_pos t
      rw [hn] at this
      simp at this
    have h2 := back_0 hu hsz (r.b ++ [t.wr.getLast hne])
    rw [List.append_nil] at h1
    rw [← List.append_assoc, ← e3, List.dropLast_concat_getLast, h1] at h2
    simp at h2

end Go.Proofs.Ytkfaahjcncpmhaa
namespace Go.Proofs.Ytkfaahjcncpmhaa
open Go.Ev

def Q (s : List UInt8) : Rq := ⟨⟨s, false⟩, false⟩
def okN (n : Int) : Prop := 0 ≤ n ∧ n ≤ 1152921504606846976
theorem badN_no {n : Int} (h : badN n = false) : okN n := by
  unfold badN at h
  rw [decide_eq_false_iff_not] at h
  unfold okN
  omega
def numsB : List Int → List UInt8
  | [] => []
  | n :: r => num n ++ numsB r
def entB (e : Ent) : List UInt8 := num e.1 ++ (num e.2.1 ++ byts e.2.2)
def entsB : List Ent → List UInt8
  | [] => []
  | e :: r => entB e ++ entsB r
def okE (e : Ent) : Prop := okN e.1 ∧ okN e.2.1 ∧ e.2.2.length ≤ 4096
theorem cnts_g : ∀ (l : List Int) (w : Wr), (w.cnts l).bad = false → w.bad = false ∧ (∀ n ∈ l, okN n) ∧ (w.cnts l).b = w.b ++ numsB l
  | [], w, h => ⟨h, fun n hn => by simp at hn, by simp [Wr.cnts, numsB]⟩
  | n :: r, w, h => by
    cases hb : badN n
    · rw [cnts_ok hb] at h ⊢
      obtain ⟨h1, h2, h3⟩ := cnts_g r _ h
      refine ⟨h1, fun k hk => ?_, by rw [h3]; simp [numsB, List.append_assoc]⟩
      rcases List.mem_cons.1 hk with rfl | hk
      · exact badN_no hb
      · exact h2 k hk
    · rw [cnts_bad hb] at h; cases h
theorem byt_g {w : Wr} {x : List UInt8} {m : Int} (h : (w.byt x m).bad = false) : w.bad = false ∧ (x.length : Int) ≤ m ∧ (w.byt x m).b = w.b ++ byts x := by
  unfold Wr.byt at h ⊢
  split at h
  · cases h
  · rename_i hn
    rw [if_neg hn]
    simp only [not_or] at hn
    exact ⟨by simpa using hn.1, by omega, rfl⟩
theorem ents_g : ∀ (l : List Ent) (w : Wr), (w.ents l).bad = false → w.bad = false ∧ (∀ e ∈ l, okE e) ∧ (w.ents l).b = w.b ++ entsB l
  | [], w, h => ⟨h, fun n hn => by simp at hn, by simp [Wr.ents, entsB]⟩
  | e :: r, w, h => by
    have h0 : w.ents (e :: r) = ((w.cnts [e.1, e.2.1]).byt e.2.2 4096).ents r := rfl
    rw [h0] at h ⊢
    obtain ⟨h1, h2, h3⟩ := ents_g r _ h
    obtain ⟨h4, h5, h6⟩ := byt_g h1
    obtain ⟨h7, h8, h9⟩ := cnts_g _ _ h4
    refine ⟨h7, fun k hk => ?_, ?_⟩
    · rcases List.mem_cons.1 hk with rfl | hk
      · exact ⟨h8 _ (by simp), h8 _ (by simp), by omega⟩
      · exact h2 k hk
    · rw [h3, h6, h9]; simp [entsB, entB, numsB, List.append_assoc]
structure MG.good (m : MG) : Prop where
  n1 : okN m.kd
  n2 : okN m.fr
  n3 : okN m.to
  n4 : okN m.tm
  n5 : okN m.ix
  n6 : okN m.lt
  n7 : okN m.cm
  pt : okN m.part
  el : okN (m.ents.length : Int)
  es : ∀ e ∈ m.ents, okE e
  ml : okN (m.mem.length : Int)
  ms : ∀ n ∈ m.mem, okN n
  rt : m.root.length ≤ 32
  tr : wrC m.tree = 0
def MG.enc (m : MG) (T : List UInt8) : List UInt8 := num m.kd ++ (num m.fr ++ (num m.to ++ (num m.tm ++ (num m.ix ++ (num m.lt ++ (num m.cm ++ (okB m.ok ++ (num (m.ents.length : Int) ++ (entsB m.ents ++ (num (m.mem.length : Int) ++ (numsB m.mem ++ (num m.part ++ (byts m.root ++ T)))))))))))))
theorem endC_0 {w : Wr} (h : w.endC = 0) : w.bad = false ∧ w.b.length ≤ 1048576 ∧ w.endB = w.b := by
  have h2 : w.endB = w.b := if_pos h
  unfold Wr.endC at h
  cases hb : w.bad
  · rw [if_neg (by simp [hb])] at h
    split at h
    · cases h
    · exact ⟨rfl, by omega, h2⟩
  · rw [if_pos hb] at h; cases h
theorem msg_good {m : MG} (h : m.p.endC = 0) : m.good ∧ m.p.endB = m.enc (byts (wrB m.tree)) ∧ m.p.endB.length ≤ 1048576 := by
  obtain ⟨h1, h2, h3⟩ := endC_0 h
  rw [h3]
  have h0 : m.p = m.p7.byt (wrB m.tree) (wrB m.tree).length := rfl
  rw [h0] at h1
  obtain ⟨a1, _, a3⟩ := byt_g h1
  have h7 : m.p7 = m.p6.or (decide (¬ wrC m.tree = 0)) := rfl
  have b7 : m.p7.b = m.p6.b := rfl
  have c7 : m.p7.bad = (m.p6.bad || decide (¬ wrC m.tree = 0)) := rfl
  rw [c7, Bool.or_eq_false_iff, decide_eq_false_iff_not, Decidable.not_not] at a1
  obtain ⟨a4, a5⟩ := a1
  have h6 : m.p6 = m.p5.byt m.root 32 := rfl
  rw [h6] at a4
  obtain ⟨a6, a7, a8⟩ := byt_g a4
  have h5 : m.p5 = m.p4.cnts [m.part] := rfl
  rw [h5] at a6
  obtain ⟨a9, a10, a11⟩ := cnts_g _ _ a6
  have h4 : m.p4 = (m.p3.cnts [(m.mem.length : Int)]).cnts m.mem := rfl
  rw [h4] at a9
  obtain ⟨a12, a13, a14⟩ := cnts_g _ _ a9
  obtain ⟨a15, a16, a17⟩ := cnts_g _ _ a12
  have h3' : m.p3 = (m.p2.cnts [(m.ents.length : Int)]).ents m.ents := rfl
  rw [h3'] at a15
  obtain ⟨a18, a19, a20⟩ := ents_g _ _ a15
  obtain ⟨a21, a22, a23⟩ := cnts_g _ _ a18
  have b2 : m.p2.b = m.p1.b ++ okB m.ok := rfl
  have c2 : m.p2.bad = m.p1.bad := rfl
  rw [c2] at a21
  have h1' : m.p1 = Wr.cnts ⟨[], false⟩ m.l7 := rfl
  rw [h1'] at a21
  obtain ⟨_, a24, a25⟩ := cnts_g _ _ a21
  simp only [MG.l7, List.mem_cons, List.not_mem_nil, or_false, forall_eq_or_imp, forall_eq] at a24 a10 a16 a22
  obtain ⟨n1, n2, n3, n4, n5, n6, n7⟩ := a24
  refine ⟨⟨n1, n2, n3, n4, n5, n6, n7, a10, a22, a19, a16, a13, by omega, a5⟩, ?_, h2⟩
  rw [h0, a3, b7, h6, a8, h5, a11, h4, a14, a17, h3', a20, a23, b2, h1', a25]
  simp only [MG.enc, MG.l7, numsB, List.nil_append, List.append_nil, List.append_assoc]
theorem Q_cnt {n : Int} (h : okN n) (s : List UInt8) : (Q (num n ++ s)).cnt = (n, Q s) := by
  unfold okN at h
  have h1 := read_num n ⟨h.1, by omega⟩ s
  unfold Rq.cnt Q
  simp only
  rw [h1, if_neg (by simp only; omega)]
theorem Q_mem : ∀ (l acc : List Int) (s : List UInt8), (∀ n ∈ l, okN n) → qmem l.length (Q (numsB l ++ s)) acc = (acc ++ l, Q s)
  | [], acc, s, _ => by simp [qmem, numsB]
  | n :: r, acc, s, h => by
    rw [List.length_cons, qmem_go rfl, numsB, List.append_assoc, Q_cnt (h n (by simp))]
    simp only
    rw [Q_mem r (acc ++ [n]) s (fun k hk => h k (by simp [hk]))]
    simp
theorem Q_mems (l : List Int) (s : List UInt8) (hl : okN (l.length : Int)) (h : ∀ n ∈ l, okN n) : (Q (num (l.length : Int) ++ (numsB l ++ s))).mems = (l, Q s) := by
  unfold Rq.mems
  rw [Q_cnt hl]
  simp only [Int.toNat_natCast]
  rw [Q_mem l [] s h, List.nil_append]
theorem Q_ent1 (e : Ent) (h : okE e) (s : List UInt8) : (Q (entB e ++ s)).ent1 = (e, Q s) := by
  have h1 := read_byts e.2.2 (by have := h.2.2; omega) 4096 (by have := h.2.2; omega) s
  unfold Rq.ent1 entB
  rw [List.append_assoc, List.append_assoc, Q_cnt h.1]
  simp only
  rw [Q_cnt h.2.1]
  simp only [Q]
  rw [h1]
theorem Q_ent : ∀ (l acc : List Ent) (s : List UInt8), (∀ e ∈ l, okE e) → qent l.length (Q (entsB l ++ s)) acc = (acc ++ l, Q s)
  | [], acc, s, _ => by simp [qent, entsB]
  | e :: r, acc, s, h => by
    rw [List.length_cons, qent_go rfl, entsB, List.append_assoc, Q_ent1 e (h e (by simp))]
    simp only
    rw [Q_ent r (acc ++ [e]) s (fun k hk => h k (by simp [hk]))]
    simp
theorem Q_ents (l : List Ent) (s : List UInt8) (hl : okN (l.length : Int)) (h : ∀ e ∈ l, okE e) : (Q (num (l.length : Int) ++ (entsB l ++ s))).ents = (l, Q s) := by
  unfold Rq.ents
  rw [Q_cnt hl]
  simp only [Int.toNat_natCast]
  rw [Q_ent l [] s h, List.nil_append]
theorem Q_byt (ok : Bool) (s : List UInt8) : (Q (okB ok ++ s)).byt = (if ok = true then 1 else 0, Q s) := by
  unfold Rq.byt Q Rd.kd
  cases ok
  · rw [show okB false ++ s = 0 :: s from rfl]
    simp only
    rw [byte_cons]
    rfl
  · rw [show okB true ++ s = 1 :: s from rfl]
    simp only
    rw [byte_cons]
    rfl
theorem Q_bys (x : List UInt8) (s : List UInt8) (h : x.length ≤ 32) : (Q (byts x ++ s)).bys 32 = (x, Q s) := by
  have h1 := read_byts x (by omega) 32 (by omega) s
  unfold Rq.bys Q
  simp only
  rw [h1]
theorem Q_tre {t : T} (h : wrC t = 0) (hs : t.size ≤ 1048576) (hl : (wrB t).length ≤ 1048576) (s : List UInt8) : (Q (byts (wrB t) ++ s)).tre = (t, Q s) := by
  have h1 := read_byts (wrB t) (by omega) 1048576 (by omega) s
  obtain ⟨h2, h3⟩ := back_2 h hs
  unfold Rq.tre Q
  simp only
  rw [h1]
  simp only
  rw [wrB_good h, h2, h3]
  rfl
theorem Q_tre_less {t : T} (h : wrC t = 0) (hl : (wrB t).length ≤ 1048576) : (Q (byts (wrB t)).dropLast).tre.2.fn = 3 := by
  have hp : 0 < (wrB t).length := by rw [wrB_good h]; exact wr_pos t
  have hne : wrB t ≠ [] := fun e => by rw [e] at hp; cases hp
  have e1 : (byts (wrB t)).dropLast = num (wrB t).length ++ (wrB t).dropLast := by
    unfold byts
    rw [List.dropLast_append_of_ne_nil hne]
  have h1 := read_num ((wrB t).length : Int) (by omega) (wrB t).dropLast
  have h2 : (Rd.bytes ⟨num (wrB t).length ++ (wrB t).dropLast, false⟩ 1048576).2.bad = true := by
    simp only [Rd.bytes]
    rw [h1, if_pos (.inr (.inr (.inr (by simp only [List.length_dropLast]; omega))))]
  rw [e1]
  unfold Rq.fn Rq.no
  rw [if_pos]
  rw [Bool.or_eq_true]
  exact .inr h2
theorem msg_read {b : List UInt8} {m : MG} {T : List UInt8} (hg : m.good) (hb : b = m.enc T) (p1 p2 p3 p4 p5 p6 p7 p8 : Int × Rq) (p9 : List Ent × Rq) (p10 : List Int × Rq) (p11 : Int × Rq) (p12 : List UInt8 × Rq) (e1 : p1 = (q0 b).cnt) (e2 : p2 = p1.2.cnt) (e3 : p3 = p2.2.cnt) (e4 : p4 = p3.2.cnt) (e5 : p5 = p4.2.cnt) (e6 : p6 = p5.2.cnt) (e7 : p7 = p6.2.cnt) (e8 : p8 = p7.2.byt) (e9 : p9 = p8.2.ents) (e10 : p10 = p9.2.mems) (e11 : p11 = p10.2.cnt) (e12 : p12 = p11.2.bys 32) : p1 = (m.kd, Q (num m.fr ++ (num m.to ++ (num m.tm ++ (num m.ix ++ (num m.lt ++ (num m.cm ++ (okB m.ok ++ (num (m.ents.length : Int) ++ (entsB m.ents ++ (num (m.mem.length : Int) ++ (numsB m.mem ++ (num m.part ++ (byts m.root ++ T)))))))))))))) ∧ p2 = (m.fr, Q (num m.to ++ (num m.tm ++ (num m.ix ++ (num m.lt ++ (num m.cm ++ (okB m.ok ++ (num (m.ents.length : Int) ++ (entsB m.ents ++ (num (m.mem.length : Int) ++ (numsB m.mem ++ (num m.part ++ (byts m.root ++ T))))))))))))) ∧ p3 = (m.to, Q (num m.tm ++ (num m.ix ++ (num m.lt ++ (num m.cm ++ (okB m.ok ++ (num (m.ents.length : Int) ++ (entsB m.ents ++ (num (m.mem.length : Int) ++ (numsB m.mem ++ (num m.part ++ (byts m.root ++ T)))))))))))) ∧ p4 = (m.tm, Q (num m.ix ++ (num m.lt ++ (num m.cm ++ (okB m.ok ++ (num (m.ents.length : Int) ++ (entsB m.ents ++ (num (m.mem.length : Int) ++ (numsB m.mem ++ (num m.part ++ (byts m.root ++ T))))))))))) ∧ p5 = (m.ix, Q (num m.lt ++ (num m.cm ++ (okB m.ok ++ (num (m.ents.length : Int) ++ (entsB m.ents ++ (num (m.mem.length : Int) ++ (numsB m.mem ++ (num m.part ++ (byts m.root ++ T)))))))))) ∧ p6 = (m.lt, Q (num m.cm ++ (okB m.ok ++ (num (m.ents.length : Int) ++ (entsB m.ents ++ (num (m.mem.length : Int) ++ (numsB m.mem ++ (num m.part ++ (byts m.root ++ T))))))))) ∧ p7 = (m.cm, Q (okB m.ok ++ (num (m.ents.length : Int) ++ (entsB m.ents ++ (num (m.mem.length : Int) ++ (numsB m.mem ++ (num m.part ++ (byts m.root ++ T)))))))) ∧ p8 = ((if m.ok = true then 1 else 0), Q (num (m.ents.length : Int) ++ (entsB m.ents ++ (num (m.mem.length : Int) ++ (numsB m.mem ++ (num m.part ++ (byts m.root ++ T))))))) ∧ p9 = (m.ents, Q (num (m.mem.length : Int) ++ (numsB m.mem ++ (num m.part ++ (byts m.root ++ T))))) ∧ p10 = (m.mem, Q (num m.part ++ (byts m.root ++ T))) ∧ p11 = (m.part, Q (byts m.root ++ T)) ∧ p12 = (m.root, Q (T)) := by
  have c1 : p1 = (m.kd, Q (num m.fr ++ (num m.to ++ (num m.tm ++ (num m.ix ++ (num m.lt ++ (num m.cm ++ (okB m.ok ++ (num (m.ents.length : Int) ++ (entsB m.ents ++ (num (m.mem.length : Int) ++ (numsB m.mem ++ (num m.part ++ (byts m.root ++ T)))))))))))))) := by rw [e1, hb]; exact Q_cnt hg.n1 _
  have c2 : p2 = (m.fr, Q (num m.to ++ (num m.tm ++ (num m.ix ++ (num m.lt ++ (num m.cm ++ (okB m.ok ++ (num (m.ents.length : Int) ++ (entsB m.ents ++ (num (m.mem.length : Int) ++ (numsB m.mem ++ (num m.part ++ (byts m.root ++ T))))))))))))) := by rw [e2, c1]; exact Q_cnt hg.n2 _
  have c3 : p3 = (m.to, Q (num m.tm ++ (num m.ix ++ (num m.lt ++ (num m.cm ++ (okB m.ok ++ (num (m.ents.length : Int) ++ (entsB m.ents ++ (num (m.mem.length : Int) ++ (numsB m.mem ++ (num m.part ++ (byts m.root ++ T)))))))))))) := by rw [e3, c2]; exact Q_cnt hg.n3 _
  have c4 : p4 = (m.tm, Q (num m.ix ++ (num m.lt ++ (num m.cm ++ (okB m.ok ++ (num (m.ents.length : Int) ++ (entsB m.ents ++ (num (m.mem.length : Int) ++ (numsB m.mem ++ (num m.part ++ (byts m.root ++ T))))))))))) := by rw [e4, c3]; exact Q_cnt hg.n4 _
  have c5 : p5 = (m.ix, Q (num m.lt ++ (num m.cm ++ (okB m.ok ++ (num (m.ents.length : Int) ++ (entsB m.ents ++ (num (m.mem.length : Int) ++ (numsB m.mem ++ (num m.part ++ (byts m.root ++ T)))))))))) := by rw [e5, c4]; exact Q_cnt hg.n5 _
  have c6 : p6 = (m.lt, Q (num m.cm ++ (okB m.ok ++ (num (m.ents.length : Int) ++ (entsB m.ents ++ (num (m.mem.length : Int) ++ (numsB m.mem ++ (num m.part ++ (byts m.root ++ T))))))))) := by rw [e6, c5]; exact Q_cnt hg.n6 _
  have c7 : p7 = (m.cm, Q (okB m.ok ++ (num (m.ents.length : Int) ++ (entsB m.ents ++ (num (m.mem.length : Int) ++ (numsB m.mem ++ (num m.part ++ (byts m.root ++ T)))))))) := by rw [e7, c6]; exact Q_cnt hg.n7 _
  have c8 : p8 = ((if m.ok = true then 1 else 0), Q (num (m.ents.length : Int) ++ (entsB m.ents ++ (num (m.mem.length : Int) ++ (numsB m.mem ++ (num m.part ++ (byts m.root ++ T))))))) := by rw [e8, c7]; exact Q_byt _ _
  have c9 : p9 = (m.ents, Q (num (m.mem.length : Int) ++ (numsB m.mem ++ (num m.part ++ (byts m.root ++ T))))) := by rw [e9, c8]; exact Q_ents _ _ hg.el hg.es
  have c10 : p10 = (m.mem, Q (num m.part ++ (byts m.root ++ T))) := by rw [e10, c9]; exact Q_mems _ _ hg.ml hg.ms
  have c11 : p11 = (m.part, Q (byts m.root ++ T)) := by rw [e11, c10]; exact Q_cnt hg.pt _
  have c12 : p12 = (m.root, Q (T)) := by rw [e12, c11]; exact Q_bys _ _ hg.rt
  exact ⟨c1, c2, c3, c4, c5, c6, c7, c8, c9, c10, c11, c12⟩
theorem okd (ok : Bool) : decide ((if ok = true then (1 : Int) else 0) = 1) = ok := by cases ok <;> rfl
theorem msg_qMsg {b : List UInt8} {m : MG} {T : List UInt8} (hg : m.good) (hb : b = m.enc T) (ht : (Q T).tre.1 = m.tree) : qMsg b = m := by
  obtain ⟨c1, c2, c3, c4, c5, c6, c7, c8, c9, c10, c11, c12⟩ := msg_read hg hb (G1 b) (G2 b) (G3 b) (G4 b) (G5 b) (G6 b) (G7 b) (G8 b) (G9 b) (G10 b) (G11 b) (G12 b) rfl rfl rfl rfl rfl rfl rfl rfl rfl rfl rfl rfl
  have c13 : G13 b = (Q T).tre := by
    show (G12 b).2.tre = _
    rw [c12]
  unfold qMsg
  rw [c1, c2, c3, c4, c5, c6, c7, c8, c9, c10, c11, c12, c13]
  simp only
  rw [okd, ht]
theorem msg_fn {b : List UInt8} {m : MG} {T : List UInt8} (hg : m.good) (hb : b = m.enc T) : (G13 b).2.fn = (Q T).tre.2.fn := by
  obtain ⟨c1, c2, c3, c4, c5, c6, c7, c8, c9, c10, c11, c12⟩ := msg_read hg hb (G1 b) (G2 b) (G3 b) (G4 b) (G5 b) (G6 b) (G7 b) (G8 b) (G9 b) (G10 b) (G11 b) (G12 b) rfl rfl rfl rfl rfl rfl rfl rfl rfl rfl rfl rfl
  have c13 : G13 b = (Q T).tre := by
    show (G12 b).2.tre = _
    rw [c12]
  rw [c13]
theorem enc_app (m : MG) (T U : List UInt8) : m.enc T ++ U = m.enc (T ++ U) := by simp only [MG.enc, List.append_assoc]
theorem enc_drop (m : MG) (T : List UInt8) (h : T ≠ []) : (m.enc T).dropLast = m.enc T.dropLast := by
  have e : ∀ X : List UInt8, m.enc X = m.enc [] ++ X := fun X => by rw [enc_app, List.nil_append]
  rw [e T, e T.dropLast, List.dropLast_append_of_ne_nil h]
theorem enc_len (m : MG) (T : List UInt8) : T.length ≤ (m.enc T).length := by
  have e : m.enc T = m.enc [] ++ T := by rw [enc_app, List.nil_append]
  rw [e, List.length_append]
  omega
theorem byts_ne2 (x : List UInt8) : byts x ≠ [] := fun h => num_ne _ (List.append_eq_nil_iff.1 h).1
theorem byts_le (x : List UInt8) : x.length ≤ (byts x).length := by unfold byts; rw [List.length_append]; omega
theorem Q_fn (s : List UInt8) : (Q s).fn = if s.length > 0 then 4 else 0 := rfl
theorem msg_back {m : MG} (h : m.p.endC = 0) (hs : m.tree.size ≤ 1048576) : msC m.p.endB = 0 ∧ msV m.p.endB = m := by
  obtain ⟨hg, hb, hl⟩ := msg_good h
  have l1 := enc_len m (byts (wrB m.tree))
  have l2 := byts_le (wrB m.tree)
  rw [← hb] at l1
  have ht := Q_tre hg.tr hs (by omega) []
  rw [List.append_nil] at ht
  have hc : msC m.p.endB = 0 := by
    unfold msC
    rw [if_neg (by omega), msg_fn hg hb, ht]
    rfl
  refine ⟨hc, ?_⟩
  unfold msV
  rw [if_pos hc]
  exact msg_qMsg hg hb (by rw [ht])
theorem msg_more {m : MG} (h : m.p.endC = 0) (hs : m.tree.size ≤ 1048576) (x : UInt8) : msC (m.p.endB ++ [x]) = if m.p.endB.length = 1048576 then 2 else 4 := by
  obtain ⟨hg, hb, hl⟩ := msg_good h
  have l1 := enc_len m (byts (wrB m.tree))
  have l2 := byts_le (wrB m.tree)
  rw [← hb] at l1
  have ht := Q_tre hg.tr hs (by omega) [x]
  have hb2 : m.p.endB ++ [x] = m.enc (byts (wrB m.tree) ++ [x]) := by rw [hb, enc_app]
  unfold msC
  by_cases hm : m.p.endB.length = 1048576
  · rw [if_pos (by rw [List.length_append, List.length_singleton]; omega), if_pos hm]
  · rw [if_neg (by rw [List.length_append, List.length_singleton]; omega), if_neg hm, msg_fn hg hb2, ht]
    rfl
theorem msg_less {m : MG} (h : m.p.endC = 0) : msC m.p.endB.dropLast = 3 := by
  obtain ⟨hg, hb, hl⟩ := msg_good h
  have l1 := enc_len m (byts (wrB m.tree))
  have l2 := byts_le (wrB m.tree)
  rw [← hb] at l1
  have hb2 : m.p.endB.dropLast = m.enc (byts (wrB m.tree)).dropLast := by rw [hb, enc_drop m _ (byts_ne2 _)]
  unfold msC
  rw [if_neg (by rw [List.length_dropLast]; omega), msg_fn hg hb2]
  exact Q_tre_less hg.tr (by omega)
theorem log_back {g : LG} (h : g.p.endC = 0) : lgC g.p.endB = 0 ∧ lgV g.p.endB = g := by
  obtain ⟨h1, h2, h3⟩ := endC_0 h
  rw [h3]
  have h0 : g.p = (g.p2.cnts [(g.ents.length : Int)]).ents g.ents := rfl
  rw [h0] at h1
  obtain ⟨a1, a2, a3⟩ := ents_g _ _ h1
  obtain ⟨a4, a5, a6⟩ := cnts_g _ _ a1
  have h2' : g.p2 = (g.p1.cnts [(g.mem.length : Int)]).cnts g.mem := rfl
  rw [h2'] at a4
  obtain ⟨a7, a8, a9⟩ := cnts_g _ _ a4
  obtain ⟨a10, a11, a12⟩ := cnts_g _ _ a7
  have h1' : g.p1 = Wr.cnts ⟨[], false⟩ [g.ix, g.tm] := rfl
  rw [h1'] at a10
  obtain ⟨_, a14, a15⟩ := cnts_g _ _ a10
  simp only [List.mem_cons, List.not_mem_nil, or_false, forall_eq_or_imp, forall_eq] at a14 a11 a5
  have hb : g.p.b = num g.ix ++ (num g.tm ++ (num (g.mem.length : Int) ++ (numsB g.mem ++ (num (g.ents.length : Int) ++ (entsB g.ents ++ []))))) := by
    rw [h0, a3, a6, h2', a9, a12, h1', a15]
    simp only [numsB, List.nil_append, List.append_nil, List.append_assoc]
  generalize g.p.b = b at *
  have c1 : (q0 b).cnt = (g.ix, Q (num g.tm ++ (num (g.mem.length : Int) ++ (numsB g.mem ++ (num (g.ents.length : Int) ++ (entsB g.ents ++ [])))))) := by rw [hb]; exact Q_cnt a14.1 _
  have c2 : (q0 b).cnt.2.cnt = (g.tm, Q (num (g.mem.length : Int) ++ (numsB g.mem ++ (num (g.ents.length : Int) ++ (entsB g.ents ++ []))))) := by rw [c1]; exact Q_cnt a14.2 _
  have c3 : (q0 b).cnt.2.cnt.2.mems = (g.mem, Q (num (g.ents.length : Int) ++ (entsB g.ents ++ []))) := by rw [c2]; exact Q_mems _ _ a11 a8
  have c4 : (q0 b).cnt.2.cnt.2.mems.2.ents = (g.ents, Q []) := by rw [c3]; exact Q_ents _ _ a5 a2
  have hc : lgC b = 0 := by
    unfold lgC qLog
    rw [if_neg (by omega)]
    simp only
    rw [c4]
    rfl
  refine ⟨hc, ?_⟩
  unfold lgV
  rw [if_pos hc]
  unfold qLog
  simp only
  rw [c4, c3, c2, c1]

end Go.Proofs.Ytkfaahjcncpmhaa
