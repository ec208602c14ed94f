/-
  The document's logs out of bytes; the same.
-/
import Derived.Test.YtkfaahjcncpmhaaLRdr6
set_option linter.unusedSimpArgs false
set_option linter.unusedVariables false
set_option maxRecDepth 200000
set_option maxHeartbeats 4000000
namespace Go.Proofs.Ytkfaahjcncpmhaa
open Go.Ev

def w0 (b : List UInt8) : Rf := ⟨b, 0, false⟩
def fLog (b : List UInt8) : LG × Rf := (⟨(w0 b).cnt.1, (w0 b).cnt.2.cnt.1, (w0 b).cnt.2.cnt.2.mems.1, (w0 b).cnt.2.cnt.2.mems.2.ents.1⟩, (w0 b).cnt.2.cnt.2.mems.2.ents.2)
def flC (b : List UInt8) : Int := if 1048576 < b.length then 2 else (fLog b).2.fin
def flV (b : List UInt8) : LG := if flC b = 0 then (fLog b).1 else LG.no
theorem Rf.fin_c (w : Rf) : w.fin = 0 ∨ w.fin = 3 ∨ w.fin = 4 := by
  unfold Rf.fin
  split
  · exact .inr (.inl rfl)
  · split
    · exact .inr (.inr rfl)
    · exact .inl rfl
theorem w0_ok (b : List UInt8) (h : b.length ≤ 1048577) : (w0 b).ok := ⟨by simp only [w0]; omega, by simp only [w0]; omega⟩
theorem fReadLog_ev (b : List UInt8) (hb : b.length ≤ 1048577) : Ev tab G0 n_ref14_ReadLog [.sl true (eB b)] [] = some ([avLog (flV b), i64 (flC b)], []) := by
  by_cases hl : 1048576 < b.length
  · have e1 : flC b = 2 := if_pos hl
    rw [flV, e1, if_neg (by decide), avLog_no]
    refine Ev_run t_ref14_ReadLog rfl rfl ?_
    simp (maxSteps := 1000000) (disch := first | omega | (simp only [lens, List.length_map]; omega)) only [go_sem, ↓reduceIte, Nat.reduceSub, Nat.reduceAdd, Nat.reduceMul, Nat.reduceLeDiff, Nat.reduceLT, Nat.reduceEqDiff, Nat.reduceBEq, Int.reduceLE, Int.reduceLT, Int.reduceEq, Int.reduceNeg, Int.reduceAdd, Int.reduceSub, Int.reduceMul, Int.reduceToNat, i_ref14_ReadLog, hl]
  · have e1 : flC b = (fLog b).2.fin := if_neg hl
    unfold flV
    rw [e1]
    have o0 := w0_ok b hb
    have h1 := fcount_ev (w0 b) o0
    have o1 := ((w0 b).cnt_ok o0).1
    have h2 := fcount_ev (w0 b).cnt.2 o1
    have o2 := ((w0 b).cnt.2.cnt_ok o1).1
    have h3 := fmems_ev (w0 b).cnt.2.cnt.2 o2
    have o3 := mems_ok _ o2
    have h4 := fents_ev (w0 b).cnt.2.cnt.2.mems.2 o3
    have o4 := ents_ok _ o3
    have h5 := ref02_End_ev (w0 b).cnt.2.cnt.2.mems.2.ents.2 o4
    unfold fLog
    have hf := ((w0 b).cnt.2.cnt.2.mems.2.ents.2).fin_c
    have e0 : ((0 : Nat) : Int) = 0 := rfl
    change Ev tab G0 n_ref14_count [.ptr 0 0] [.var [.sl true (eB b), i64 ((0 : Nat) : Int), bo false]] = _ at h1
    rw [e0] at h1
    clear o0 o1 o2 o3 o4
    simp only at *
    generalize (w0 b).cnt = p at *
    obtain ⟨x, q1⟩ := p
    simp only at *
    generalize q1.cnt = p at *
    obtain ⟨y, q2⟩ := p
    simp only at *
    generalize q2.mems = p at *
    obtain ⟨m, q3⟩ := p
    simp only at *
    generalize q3.ents = p at *
    obtain ⟨e, q4⟩ := p
    simp only at *
    generalize q4.fin = f at *
    obtain ⟨B1, p1, b1⟩ := q1
    obtain ⟨B2, p2, b2⟩ := q2
    obtain ⟨B3, p3, b3⟩ := q3
    obtain ⟨B4, p4, b4⟩ := q4
    refine Ev_run t_ref14_ReadLog rfl rfl ?_
    rcases hf with rfl | rfl | rfl
    · rw [if_pos rfl]
      simp (maxSteps := 1000000) (disch := first | omega | (simp only [lens, List.length_map]; omega)) only [go_sem, ↓reduceIte, Nat.reduceSub, Nat.reduceAdd, Nat.reduceMul, Nat.reduceLeDiff, Nat.reduceLT, Nat.reduceEqDiff, Nat.reduceBEq, Int.reduceLE, Int.reduceLT, Int.reduceEq, Int.reduceNeg, Int.reduceAdd, Int.reduceSub, Int.reduceMul, Int.reduceToNat, i_ref14_ReadLog, hl, h1, h2, h3, h4, h5]
    · rw [if_neg (by decide), avLog_no]
      simp (maxSteps := 1000000) (disch := first | omega | (simp only [lens, List.length_map]; omega)) only [go_sem, ↓reduceIte, Nat.reduceSub, Nat.reduceAdd, Nat.reduceMul, Nat.reduceLeDiff, Nat.reduceLT, Nat.reduceEqDiff, Nat.reduceBEq, Int.reduceLE, Int.reduceLT, Int.reduceEq, Int.reduceNeg, Int.reduceAdd, Int.reduceSub, Int.reduceMul, Int.reduceToNat, i_ref14_ReadLog, hl, h1, h2, h3, h4, h5]
    · rw [if_neg (by decide), avLog_no]
      simp (maxSteps := 1000000) (disch := first | omega | (simp only [lens, List.length_map]; omega)) only [go_sem, ↓reduceIte, Nat.reduceSub, Nat.reduceAdd, Nat.reduceMul, Nat.reduceLeDiff, Nat.reduceLT, Nat.reduceEqDiff, Nat.reduceBEq, Int.reduceLE, Int.reduceLT, Int.reduceEq, Int.reduceNeg, Int.reduceAdd, Int.reduceSub, Int.reduceMul, Int.reduceToNat, i_ref14_ReadLog, hl, h1, h2, h3, h4, h5]
theorem q0_sim (b : List UInt8) (h : b.length ≤ 1048577) : RelQ (q0 b) (w0 b) := Rel.good ⟨w0_ok b h, Nat.le_refl _, rfl, fun _ => rfl⟩
theorem fin_sim {q : Rq} {w : Rf} (h : RelQ q w) : q.fn = w.fin := by
  unfold Rq.fn
  cases hb : w.bad
  · rw [if_neg (by rw [h.no, hb]; decide)]
    exact (sim_fin (h.sim hb).2).1
  · rw [if_pos (h.no.trans hb)]
    unfold Rf.fin
    rw [if_pos hb]
theorem fin_0 {w : Rf} (h : w.fin = 0) : w.bad = false := by
  unfold Rf.fin at h
  cases hb : w.bad
  · rfl
  · rw [if_pos hb] at h; cases h

end Go.Proofs.Ytkfaahjcncpmhaa
