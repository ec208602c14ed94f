/-
  Messages out of bytes: the document's reader, from its front to its end.
-/
import Derived.Test.YtkfaahjcncpmhaaLRdr10
import Derived.Test.YtkfaahjcncpmhaaLRdr9c
import Derived.Test.YtkfaahjcncpmhaaLCodeF2
set_option linter.unusedSimpArgs false
set_option linter.unusedVariables false
set_option maxRecDepth 200000
set_option maxHeartbeats 4000000
namespace Go.Proofs.Ytkfaahjcncpmhaa
open Go.Ev

def Rf.byt (w : Rf) : Int × Rf := (w.kd, if 1 < w.kd then w.byte.2.spoil else w.byte.2)
def Rf.tre (w : Rf) : T × Rf := (rfV (w.bytes 1048576).1, if rfC (w.bytes 1048576).1 = 0 then (w.bytes 1048576).2 else (w.bytes 1048576).2.spoil)
theorem rfC_c (b : List UInt8) : rfC b = 0 ∨ rfC b = 3 ∨ rfC b = 4 := (rfR b).2.fin_c
theorem ffin_b {w : Rf} (h : ¬ w.fin = 3) : w.bad = false := by
  cases hb : w.bad
  · rfl
  · unfold Rf.fin at h
    rw [if_pos hb] at h
    exact absurd rfl h
theorem fbytes_len (w : Rf) (h : w.ok) : (w.bytes 1048576).1.length ≤ 1048576 := by
  simp only [Rf.bytes]
  split
  · simp
  · rename_i hn
    simp only [not_or] at hn
    simp only [List.length_take]
    omega
theorem ftre_ok (w : Rf) (h : w.ok) : w.tre.2.ok := by
  unfold Rf.tre
  simp only
  split
  · exact (w.bytes_ok 1048576 h).1
  · exact spoil_ok (w.bytes_ok 1048576 h).1
theorem fRead_chain (b : List UInt8) (hl : ¬ 1048576 < b.length) (p1 p2 p3 p4 p5 p6 p7 p8 : Int × Rf) (p9 : List Ent × Rf) (p10 : List Int × Rf) (p11 : Int × Rf) (p12 : List UInt8 × Rf) (p13 : T × Rf)
    (e1 : p1 = (w0 b).cnt) (e2 : p2 = p1.2.cnt) (e3 : p3 = p2.2.cnt) (e4 : p4 = p3.2.cnt) (e5 : p5 = p4.2.cnt) (e6 : p6 = p5.2.cnt) (e7 : p7 = p6.2.cnt) (e8 : p8 = p7.2.byt) (e9 : p9 = p8.2.ents) (e10 : p10 = p9.2.mems) (e11 : p11 = p10.2.cnt) (e12 : p12 = p11.2.bytes 32) (e13 : p13 = p12.2.tre) :
    Ev tab G0 n_ref14_Read [.sl true (eB b)] [] = some ([avMsg (if p13.2.fin = 0 then ⟨p1.1, p2.1, p3.1, p4.1, p5.1, p6.1, p7.1, decide (p8.1 = 1), p9.1, p10.1, p11.1, p12.1, p13.1⟩ else MG.no), i64 p13.2.fin], []) := by
  have o0 := w0_ok b (by omega)
  have h1 : Ev tab G0 n_ref14_count [.ptr 0 0] [.var [.sl true (eB b), i64 0, bo false]] = some ([i64 p1.1], [fO p1.2]) := by rw [e1]; exact fcount_ev (w0 b) o0
  have o1 : p1.2.ok := by rw [e1]; exact ((w0 b).cnt_ok o0).1
  have h2 : Ev tab G0 n_ref14_count [.ptr 0 0] [fO p1.2] = some ([i64 p2.1], [fO p2.2]) := by rw [e2]; exact fcount_ev p1.2 o1
  have o2 : p2.2.ok := by rw [e2]; exact (p1.2.cnt_ok o1).1
  have h3 : Ev tab G0 n_ref14_count [.ptr 0 0] [fO p2.2] = some ([i64 p3.1], [fO p3.2]) := by rw [e3]; exact fcount_ev p2.2 o2
  have o3 : p3.2.ok := by rw [e3]; exact (p2.2.cnt_ok o2).1
  have h4 : Ev tab G0 n_ref14_count [.ptr 0 0] [fO p3.2] = some ([i64 p4.1], [fO p4.2]) := by rw [e4]; exact fcount_ev p3.2 o3
  have o4 : p4.2.ok := by rw [e4]; exact (p3.2.cnt_ok o3).1
  have h5 : Ev tab G0 n_ref14_count [.ptr 0 0] [fO p4.2] = some ([i64 p5.1], [fO p5.2]) := by rw [e5]; exact fcount_ev p4.2 o4
  have o5 : p5.2.ok := by rw [e5]; exact (p4.2.cnt_ok o4).1
  have h6 : Ev tab G0 n_ref14_count [.ptr 0 0] [fO p5.2] = some ([i64 p6.1], [fO p6.2]) := by rw [e6]; exact fcount_ev p5.2 o5
  have o6 : p6.2.ok := by rw [e6]; exact (p5.2.cnt_ok o5).1
  have h7 : Ev tab G0 n_ref14_count [.ptr 0 0] [fO p6.2] = some ([i64 p7.1], [fO p7.2]) := by rw [e7]; exact fcount_ev p6.2 o6
  have o7 : p7.2.ok := by rw [e7]; exact (p6.2.cnt_ok o6).1
  have h8 := ref02_Byte_k p7.2 o7
  have o8 : p8.2.ok := by
    rw [e8]
    unfold Rf.byt
    simp only
    split
    · exact spoil_ok (p7.2.byte_ok o7)
    · exact p7.2.byte_ok o7
  have h9 : Ev tab G0 n_ref14_entries [.ptr 0 0] [fO p8.2] = some ([.sl true (eE p9.1)], [fO p9.2]) := by rw [e9]; exact fents_ev p8.2 o8
  have o9 : p9.2.ok := by rw [e9]; exact ents_ok _ o8
  have m9 : p8.2.bad = true → p9.2.bad = true := fun h => by rw [e9]; exact ents_bad h
  have h10 : Ev tab G0 n_ref14_members [.ptr 0 0] [fO p9.2] = some ([.sl true (eI .i64 p10.1)], [fO p10.2]) := by rw [e10]; exact fmems_ev p9.2 o9
  have o10 : p10.2.ok := by rw [e10]; exact mems_ok _ o9
  have m10 : p9.2.bad = true → p10.2.bad = true := fun h => by rw [e10]; exact mems_bad h
  have h11 : Ev tab G0 n_ref14_count [.ptr 0 0] [fO p10.2] = some ([i64 p11.1], [fO p11.2]) := by rw [e11]; exact fcount_ev p10.2 o10
  have o11 : p11.2.ok := by rw [e11]; exact (p10.2.cnt_ok o10).1
  have m11 : p10.2.bad = true → p11.2.bad = true := fun h => by rw [e11]; exact (fcnt_left _).2 h
  have h12 : Ev tab G0 n_ref02_Reader_Bytes [.ptr 0 0, i64 32] [fO p11.2] = some ([.sl true (eB p12.1)], [fO p12.2]) := by rw [e12]; exact ref02_Bytes_r_ev p11.2 32 (by omega) o11
  have o12 : p12.2.ok := by rw [e12]; exact (p11.2.bytes_ok 32 o11).1
  have m12 : p11.2.bad = true → p12.2.bad = true := fun h => by rw [e12]; exact (fbytes_left p11.2 32).2 h
  have h13 := ref02_Bytes_r_ev p12.2 1048576 (by omega) o12
  have m13a : p12.2.bad = true → (p12.2.bytes 1048576).2.bad = true := (fbytes_left p12.2 1048576).2
  have l13 := fbytes_len p12.2 o12
  have h14 := fRead_ev (p12.2.bytes 1048576).1 l13
  have o13 : p13.2.ok := by rw [e13]; exact ftre_ok p12.2 o12
  have h15 := ref02_End_ev p13.2 o13
  have hf := p13.2.fin_c
  have m13 : ¬ p13.2.fin = 3 → p13.2.bad = false := ffin_b
  have m8 : p12.2.bad = false → p8.2.bad = false := fun h => good_b m9 (good_b m10 (good_b m11 (good_b m12 h)))
  generalize hff : p13.2.fin = f at *
  clear hff
  clear e1 e2 e3 e4 e5 e6 e7 e9 e10 e11 e12 l13 o0 o1 o2 o3 o4 o5 o6 o7 o8 o9 o10 o11 o12 o13 m9 m10 m11 m12
  have e8a : p8.1 = p7.2.kd := by rw [e8]; rfl
  have e8b : p8.2 = if 1 < p7.2.kd then p7.2.byte.2.spoil else p7.2.byte.2 := by rw [e8]; rfl
  have e13a : p13.1 = rfV (p12.2.bytes 1048576).1 := by rw [e13]; rfl
  have e13b : p13.2 = if rfC (p12.2.bytes 1048576).1 = 0 then (p12.2.bytes 1048576).2 else (p12.2.bytes 1048576).2.spoil := by rw [e13]; rfl
  clear e8 e13
  rw [e8b] at h9 m8
  rw [e13b] at h15 m13
  rw [e13a]
  clear e8b e13a e13b
  generalize p8.1 = x8 at *
  subst e8a
  generalize p7.2.kd = kd at *
  generalize p7.2.byte.2 = w8 at *
  generalize p12.2.bytes 1048576 = z at *
  generalize z.1 = x13 at *
  generalize z.2 = w13 at *
  generalize rfV x13 = t at *
  generalize rfC x13 = c at *
  obtain ⟨x1, w1⟩ := p1
  obtain ⟨x2, w2⟩ := p2
  obtain ⟨x3, w3⟩ := p3
  obtain ⟨x4, w4⟩ := p4
  obtain ⟨x5, w5⟩ := p5
  obtain ⟨x6, w6⟩ := p6
  obtain ⟨x7, w7⟩ := p7
  obtain ⟨x9, w9⟩ := p9
  obtain ⟨x10, w10⟩ := p10
  obtain ⟨x11, w11⟩ := p11
  obtain ⟨x12, w12⟩ := p12
  simp only at h1 h2 h3 h4 h5 h6 h7 h8 h10 h11 h12 h13 h14 m8 m13a ⊢
  rw [avT] at h14
  rcases hf with rfl | rfl | rfl
  · rw [if_pos rfl]
    have a := m13 (by decide)
    have hc : c = 0 := by
      by_cases hc : c = 0
      · exact hc
      · rw [if_neg hc] at a; cases a
    subst hc
    rw [if_pos rfl] at a h15
    have a := m8 (good_b m13a a)
    have hk : ¬ 1 < kd := fun hk => by rw [if_pos hk] at a; cases a
    rw [if_neg hk] at h9
    exact Fc_lt_0_0 b hl _ _ _ _ _ _ _ _ _ _ _ _ _ _ _ _ _ _ _ _ _ _ _ _ _ _ _ hk h1 h2 h3 h4 h5 h6 h7 h8 h9 h10 h11 h12 h13 h14 h15
  · clear m13 m8
    rw [if_neg (by decide)]
    by_cases hc : c = 0
    · subst hc
      rw [if_pos rfl] at h15
      by_cases hk : 1 < kd
      · rw [if_pos hk] at h9
        exact Fc_gt_0_3 b hl _ _ _ _ _ _ _ _ _ _ _ _ _ _ _ _ _ _ _ _ _ _ _ _ _ _ _ hk h1 h2 h3 h4 h5 h6 h7 h8 h9 h10 h11 h12 h13 h14 h15
      · rw [if_neg hk] at h9
        exact Fc_lt_0_3 b hl _ _ _ _ _ _ _ _ _ _ _ _ _ _ _ _ _ _ _ _ _ _ _ _ _ _ _ hk h1 h2 h3 h4 h5 h6 h7 h8 h9 h10 h11 h12 h13 h14 h15
    · rw [if_neg hc] at h15
      by_cases hk : 1 < kd
      · rw [if_pos hk] at h9
        exact Fc_gt_n_3 b hl _ _ _ _ _ _ _ _ _ _ _ _ _ _ _ _ _ _ _ _ _ _ _ _ _ _ _ _ hc hk h1 h2 h3 h4 h5 h6 h7 h8 h9 h10 h11 h12 h13 h14 h15
      · rw [if_neg hk] at h9
        exact Fc_lt_n_3 b hl _ _ _ _ _ _ _ _ _ _ _ _ _ _ _ _ _ _ _ _ _ _ _ _ _ _ _ _ hc hk h1 h2 h3 h4 h5 h6 h7 h8 h9 h10 h11 h12 h13 h14 h15
  · rw [if_neg (by decide)]
    have a := m13 (by decide)
    have hc : c = 0 := by
      by_cases hc : c = 0
      · exact hc
      · rw [if_neg hc] at a; cases a
    subst hc
    rw [if_pos rfl] at a h15
    have a := m8 (good_b m13a a)
    have hk : ¬ 1 < kd := fun hk => by rw [if_pos hk] at a; cases a
    rw [if_neg hk] at h9
    exact Fc_lt_0_4 b hl _ _ _ _ _ _ _ _ _ _ _ _ _ _ _ _ _ _ _ _ _ _ _ _ _ _ _ hk h1 h2 h3 h4 h5 h6 h7 h8 h9 h10 h11 h12 h13 h14 h15
def K1 (b : List UInt8) : Int × Rf := (w0 b).cnt
def K2 (b : List UInt8) : Int × Rf := (K1 b).2.cnt
def K3 (b : List UInt8) : Int × Rf := (K2 b).2.cnt
def K4 (b : List UInt8) : Int × Rf := (K3 b).2.cnt
def K5 (b : List UInt8) : Int × Rf := (K4 b).2.cnt
def K6 (b : List UInt8) : Int × Rf := (K5 b).2.cnt
def K7 (b : List UInt8) : Int × Rf := (K6 b).2.cnt
def K8 (b : List UInt8) : Int × Rf := (K7 b).2.byt
def K9 (b : List UInt8) : List Ent × Rf := (K8 b).2.ents
def K10 (b : List UInt8) : List Int × Rf := (K9 b).2.mems
def K11 (b : List UInt8) : Int × Rf := (K10 b).2.cnt
def K12 (b : List UInt8) : List UInt8 × Rf := (K11 b).2.bytes 32
def K13 (b : List UInt8) : T × Rf := (K12 b).2.tre
def fMsg (b : List UInt8) : MG := ⟨(K1 b).1, (K2 b).1, (K3 b).1, (K4 b).1, (K5 b).1, (K6 b).1, (K7 b).1, decide ((K8 b).1 = 1), (K9 b).1, (K10 b).1, (K11 b).1, (K12 b).1, (K13 b).1⟩
def fsC (b : List UInt8) : Int := if 1048576 < b.length then 2 else (K13 b).2.fin
def fsV (b : List UInt8) : MG := if fsC b = 0 then fMsg b else MG.no
theorem fRead_evL (b : List UInt8) (hl : 1048576 < b.length) (hb : b.length ≤ 1048577) : Ev tab G0 n_ref14_Read [.sl true (eB b)] [] = some ([avMsg MG.no, i64 2], []) := by
  rw [avMsg_no]
  refine Ev_run t_ref14_Read rfl rfl ?_
  simp (maxSteps := 1000000) (disch := first | omega | (simp only [lens, List.length_map]; omega)) only [go_sem, ↓reduceIte, Nat.reduceSub, Nat.reduceAdd, Nat.reduceMul, Nat.reduceLeDiff, Nat.reduceLT, Nat.reduceEqDiff, Nat.reduceBEq, Int.reduceLE, Int.reduceLT, Int.reduceEq, Int.reduceNeg, Int.reduceAdd, Int.reduceSub, Int.reduceMul, Int.reduceToNat, i_ref14_Read, hl]
theorem fRead14_ev (b : List UInt8) (hb : b.length ≤ 1048577) : Ev tab G0 n_ref14_Read [.sl true (eB b)] [] = some ([avMsg (fsV b), i64 (fsC b)], []) := by
  by_cases hl : 1048576 < b.length
  · have e1 : fsC b = 2 := if_pos hl
    rw [fsV, e1, if_neg (by decide)]
    exact fRead_evL b hl hb
  · have e1 : fsC b = (K13 b).2.fin := if_neg hl
    rw [fsV, e1]
    exact fRead_chain b hl (K1 b) (K2 b) (K3 b) (K4 b) (K5 b) (K6 b) (K7 b) (K8 b) (K9 b) (K10 b) (K11 b) (K12 b) (K13 b) rfl rfl rfl rfl rfl rfl rfl rfl rfl rfl rfl rfl rfl

end Go.Proofs.Ytkfaahjcncpmhaa
