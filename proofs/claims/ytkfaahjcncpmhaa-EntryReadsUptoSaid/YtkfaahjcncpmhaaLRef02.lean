/-
  The document's reader, by the evaluator.
-/
import Derived.Test.YtkfaahjcncpmhaaLCoder
set_option linter.unusedSimpArgs false
set_option linter.unusedVariables false
set_option maxRecDepth 200000
set_option maxHeartbeats 4000000
namespace Go.Proofs.Ytkfaahjcncpmhaa
open Go.Ev

structure Rf where
  B : List UInt8
  p : Nat
  bad : Bool
abbrev fO (r : Rf) : Ev.Obj := .var [.sl true (eB r.B), i64 r.p, bo r.bad]
def Rf.ok (r : Rf) : Prop := r.B.length ≤ 1073741824 ∧ r.p ≤ r.B.length
def Rf.byte (r : Rf) : UInt8 × Rf := if r.bad = true then (0, ⟨r.B, r.p, true⟩) else if r.B.length ≤ r.p then (0, ⟨r.B, r.p, true⟩) else (r.B.getD r.p 0, ⟨r.B, r.p + 1, false⟩)
theorem Rf.byte_ok (r : Rf) (h : r.ok) : r.byte.2.ok := by
  unfold Rf.byte
  obtain ⟨h1, h2⟩ := h
  split
  · exact ⟨h1, h2⟩
  · split
    · exact ⟨h1, h2⟩
    · exact ⟨h1, by simp only; omega⟩
theorem ref02_Byte_ev (r : Rf) (h : r.ok) : Ev tab G0 n_ref02_Reader_Byte [.ptr 0 0] [fO r] = some ([u8 r.byte.1.toNat], [fO r.byte.2]) := by
  obtain ⟨B, p, bad⟩ := r
  obtain ⟨h1, h2⟩ := h
  simp only at h1 h2
  have e : (((p : Int) + 1 - 1)).toNat = p := by omega
  have e0 : (((0 : UInt8).toNat : Nat) : Int) = 0 := rfl
  refine Ev_run t_ref02_Reader_Byte rfl rfl ?_
  simp (maxSteps := 1000000) (disch := first | omega | (simp only [lens, List.length_map]; omega)) only [go_sem, ↓reduceIte, Nat.reduceSub, Nat.reduceAdd, Nat.reduceMul, Nat.reduceLeDiff, Nat.reduceLT, Nat.reduceEqDiff, Nat.reduceBEq, Int.reduceLE, Int.reduceLT, Int.reduceEq, Int.reduceNeg, Int.reduceAdd, Int.reduceSub, Int.reduceMul, Int.reduceToNat, i_ref02_Reader_Byte, Rf.byte, e]
  (repeat' split) <;> first | rfl | (exfalso; omega) | (simp_all; done) | (simp_all; omega)
def Rf.num (r : Rf) : Int × Rf := let q := r.byte
  if q.2.bad = true then (q.1.toNat, q.2) else if q.1.toNat < 248 then (q.1.toNat, q.2) else
  let n := q.1.toNat - 247
  if q.2.B.length - q.2.p < n then (0, ⟨q.2.B, q.2.p, true⟩) else
  let l := (q.2.B.drop q.2.p).take n
  if l.getD 0 0 = 0 ∨ beV l < 248 then (0, ⟨q.2.B, q.2.p, true⟩) else (beV l, ⟨q.2.B, q.2.p + n, q.2.bad⟩)
theorem drop_get {l : List UInt8} {a i : Nat} : l.getD (a + i) 0 = (l.drop a).getD i 0 := by simp [List.getD, List.getElem?_drop]
theorem ref02_loop : ∀ (n : Nat) (r : Rf) (m : Int) (i : Int), r.ok → 0 ≤ i → i + n = m → r.p + m ≤ r.B.length → m ≤ 8 → L_ref02_Reader_Number_0 (s_ref02_Reader_Number_K0 (.ptr 0 0) (i64 m) (u64 (beV ((r.B.drop r.p).take i.toNat))) (i64 i) [some (fO r)]) = some (.exit 0, s_ref02_Reader_Number_J0 (.ptr 0 0) (i64 m) (u64 (beV ((r.B.drop r.p).take m.toNat))) [some (fO r)])
  | 0, r, m, i, h0, h1, h2, h3, h4 => by
    obtain ⟨h5, h6⟩ := h0
    have : i = m := by omega
    subst this
    rw [L_ref02_Reader_Number_0_eq]
    simp (maxSteps := 1000000) (disch := first | omega | (simp only [lens, List.length_map]; omega)) only [go_sem, ↓reduceIte, Nat.reduceSub, Nat.reduceAdd, Nat.reduceMul, Nat.reduceLeDiff, Nat.reduceLT, Nat.reduceEqDiff, Nat.reduceBEq, Int.reduceLE, Int.reduceLT, Int.reduceEq, Int.reduceNeg, Int.reduceAdd, Int.reduceSub, Int.reduceMul, Int.reduceToNat, i_ref02_Reader_Number_b0]
  | n + 1, r, m, i, h0, h1, h2, h3, h4 => by
    obtain ⟨h5, h6⟩ := h0
    rw [L_ref02_Reader_Number_0_eq]
    have ih := ref02_loop n r m (i + 1) ⟨h5, h6⟩ (by omega) (by omega) h3 h4
    have e : (i + 1).toNat = i.toNat + 1 := by omega
    have e2 : ((r.p : Int) + i).toNat = r.p + i.toNat := by omega
    rw [e, take_snoc (by simp; omega), beV_snoc] at ih
    have h7 := beV_lt (l := (r.B.drop r.p).take i.toNat) (n := 7) (by simp; omega) (by omega)
    have h8 := ((r.B.drop r.p).getD i.toNat 0).toNat_lt
    have e3 : 256 * beV ((r.B.drop r.p).take i.toNat) = beV ((r.B.drop r.p).take i.toNat) * 256 := Int.mul_comm _ _
    simp (maxSteps := 1000000) (disch := first | omega | (simp only [lens, List.length_map]; omega)) only [go_sem, ↓reduceIte, Nat.reduceSub, Nat.reduceAdd, Nat.reduceMul, Nat.reduceLeDiff, Nat.reduceLT, Nat.reduceEqDiff, Nat.reduceBEq, Int.reduceLE, Int.reduceLT, Int.reduceEq, Int.reduceNeg, Int.reduceAdd, Int.reduceSub, Int.reduceMul, Int.reduceToNat, i_ref02_Reader_Number_b0, e2, drop_get, e3, ih]
theorem Rf.num_ok (r : Rf) (h : r.ok) : r.num.2.ok ∧ 0 ≤ r.num.1 ∧ r.num.1 < 18446744073709551616 := by
  have h1 := r.byte_ok h
  simp only [Rf.num]
  generalize r.byte = q at *
  obtain ⟨c, r1⟩ := q
  obtain ⟨h2, h3⟩ := h1
  simp only at *
  have hc := c.toNat_lt
  split
  · exact ⟨⟨h2, h3⟩, by omega⟩
  · split
    · exact ⟨⟨h2, h3⟩, by simp only; omega⟩
    · split
      · exact ⟨⟨h2, h3⟩, by simp only; omega⟩
      · split
        · exact ⟨⟨h2, h3⟩, by simp only; omega⟩
        · have := beV_lt (l := (r1.B.drop r1.p).take (c.toNat - 247)) (n := 8) (by simp; omega) (by omega)
          refine ⟨⟨h2, ?_⟩, by simp only; omega⟩
          simp only; omega
theorem ref02_Number_r_ev (r : Rf) (h : r.ok) : Ev tab G0 n_ref02_Reader_Number [.ptr 0 0] [fO r] = some ([u64 r.num.1], [fO r.num.2]) := by
  have h1 := ref02_Byte_ev r h
  have h2 := r.byte_ok h
  simp only [Rf.num]
  generalize r.byte = q at *
  obtain ⟨c, r1⟩ := q
  obtain ⟨B, p, bad⟩ := r1
  obtain ⟨h3, h4⟩ := h2
  simp only at *
  have hc := c.toNat_lt
  have h5 := fun (hh : 248 ≤ c.toNat ∧ p + (c.toNat - 247) ≤ B.length) => ref02_loop (c.toNat - 247) ⟨B, p, bad⟩ (c.toNat - 247 : Nat) 0 ⟨h3, h4⟩ (by omega) (by omega) (by simp only; omega) (by omega)
  have e1 : (((c.toNat - 247 : Nat) : Int)).toNat = c.toNat - 247 := by omega
  have e0 : beV [] = 0 := rfl
  simp only [e1, Int.toNat_zero, List.take_zero, e0] at h5
  refine Ev_run t_ref02_Reader_Number rfl rfl ?_
  cases bad
  · by_cases hc2 : c.toNat < 248
    · simp (maxSteps := 1000000) (disch := first | omega | (simp only [lens, List.length_map]; omega)) only [go_sem, ↓reduceIte, Nat.reduceSub, Nat.reduceAdd, Nat.reduceMul, Nat.reduceLeDiff, Nat.reduceLT, Nat.reduceEqDiff, Nat.reduceBEq, Int.reduceLE, Int.reduceLT, Int.reduceEq, Int.reduceNeg, Int.reduceAdd, Int.reduceSub, Int.reduceMul, Int.reduceToNat, i_ref02_Reader_Number, h1, hc2]
    · have e2 : (c.toNat : Int) - 247 = ((c.toNat - 247 : Nat) : Int) := by omega
      by_cases hl : B.length - p < c.toNat - 247
      · simp (maxSteps := 1000000) (disch := first | omega | (simp only [lens, List.length_map]; omega)) only [go_sem, ↓reduceIte, Nat.reduceSub, Nat.reduceAdd, Nat.reduceMul, Nat.reduceLeDiff, Nat.reduceLT, Nat.reduceEqDiff, Nat.reduceBEq, Int.reduceLE, Int.reduceLT, Int.reduceEq, Int.reduceNeg, Int.reduceAdd, Int.reduceSub, Int.reduceMul, Int.reduceToNat, i_ref02_Reader_Number, h1, hc2, e2, hl]
      · have h6 := h5 (by omega)
        have e3 : ((B.drop p).take (c.toNat - 247)).getD 0 0 = B.getD p 0 := by
          simp [List.getD, List.getElem?_take, List.getElem?_drop]
          rw [if_pos (by omega)]
        simp (maxSteps := 1000000) (disch := first | omega | (simp only [lens, List.length_map]; omega)) only [go_sem, ↓reduceIte, Nat.reduceSub, Nat.reduceAdd, Nat.reduceMul, Nat.reduceLeDiff, Nat.reduceLT, Nat.reduceEqDiff, Nat.reduceBEq, Int.reduceLE, Int.reduceLT, Int.reduceEq, Int.reduceNeg, Int.reduceAdd, Int.reduceSub, Int.reduceMul, Int.reduceToNat, i_ref02_Reader_Number, h1, hc2, e2, hl, h6, e3, u8z]
        (repeat' split) <;> first | rfl | (exfalso; omega) | (simp_all; done) | (simp_all; omega)
  · simp (maxSteps := 1000000) (disch := first | omega | (simp only [lens, List.length_map]; omega)) only [go_sem, ↓reduceIte, Nat.reduceSub, Nat.reduceAdd, Nat.reduceMul, Nat.reduceLeDiff, Nat.reduceLT, Nat.reduceEqDiff, Nat.reduceBEq, Int.reduceLE, Int.reduceLT, Int.reduceEq, Int.reduceNeg, Int.reduceAdd, Int.reduceSub, Int.reduceMul, Int.reduceToNat, i_ref02_Reader_Number, h1]
def Rf.bytes (r : Rf) (most : Int) : List UInt8 × Rf := let q := r.num
  if q.2.bad = true ∨ most < 0 ∨ most < q.1 ∨ (q.2.B.length - q.2.p : Nat) < q.1 then ([], ⟨q.2.B, q.2.p, true⟩) else ((q.2.B.drop q.2.p).take q.1.toNat, ⟨q.2.B, q.2.p + q.1.toNat, q.2.bad⟩)
theorem ref02_Bytes_r_ev (r : Rf) (most : Int) (hm : -9223372036854775808 ≤ most ∧ most < 9223372036854775808) (h : r.ok) : Ev tab G0 n_ref02_Reader_Bytes [.ptr 0 0, i64 most] [fO r] = some ([.sl true (eB (r.bytes most).1)], [fO (r.bytes most).2]) := by
  have h1 := ref02_Number_r_ev r h
  have h2 := r.num_ok h
  simp only [Rf.bytes]
  generalize r.num = q at *
  obtain ⟨n, r1⟩ := q
  obtain ⟨B, p, bad⟩ := r1
  obtain ⟨⟨h3, h4⟩, h5⟩ := h2
  simp only at *
  have e1 : ((B.length - p : Nat) : Int) = (B.length : Int) - p := by omega
  refine Ev_run t_ref02_Reader_Bytes rfl rfl ?_
  have e2 : 0 ≤ n → ((p : Int) + n).toNat = p + n.toNat := fun h => by omega
  have e3 : 0 ≤ n → (p : Int) + n = ((p + n.toNat : Nat) : Int) := fun h => by omega
  have e4 : ∀ k, (B.drop p).take k = (B.take (p + k)).drop p := fun k => by rw [List.drop_take]; congr 1; omega
  have e5 := e2 h5.1
  have e6 : ((n.toNat : Nat) : Int) = n := by omega
  clear e2 e3
  cases bad
  · simp (maxSteps := 1000000) (disch := first | omega | (simp only [lens, List.length_map]; omega)) only [go_sem, ↓reduceIte, Nat.reduceSub, Nat.reduceAdd, Nat.reduceMul, Nat.reduceLeDiff, Nat.reduceLT, Nat.reduceEqDiff, Nat.reduceBEq, Int.reduceLE, Int.reduceLT, Int.reduceEq, Int.reduceNeg, Int.reduceAdd, Int.reduceSub, Int.reduceMul, Int.reduceToNat, i_ref02_Reader_Bytes, h1, e1, e4, e5, e6]
    clear e4
    (repeat' split) <;> first | rfl | (exfalso; omega) | (simp_all; done) | (simp_all; omega)
  · simp (maxSteps := 1000000) (disch := first | omega | (simp only [lens, List.length_map]; omega)) only [go_sem, ↓reduceIte, Nat.reduceSub, Nat.reduceAdd, Nat.reduceMul, Nat.reduceLeDiff, Nat.reduceLT, Nat.reduceEqDiff, Nat.reduceBEq, Int.reduceLE, Int.reduceLT, Int.reduceEq, Int.reduceNeg, Int.reduceAdd, Int.reduceSub, Int.reduceMul, Int.reduceToNat, i_ref02_Reader_Bytes, h1]
    (repeat' split) <;> first | rfl | (exfalso; omega) | (simp_all; done) | (simp_all; omega)
theorem Rf.bytes_ok (r : Rf) (most : Int) (h : r.ok) : (r.bytes most).2.ok ∧ (r.bytes most).1.length ≤ 1073741824 := by
  have h2 := r.num_ok h
  simp only [Rf.bytes]
  generalize r.num = q at *
  obtain ⟨n, r1⟩ := q
  obtain ⟨⟨h3, h4⟩, h5⟩ := h2
  simp only at *
  split
  · exact ⟨⟨h3, h4⟩, by simp⟩
  · refine ⟨⟨h3, ?_⟩, by simp; omega⟩
    simp only; omega
def Rf.fin (r : Rf) : Int := if r.bad = true then 3 else if r.p < r.B.length then 4 else 0
theorem ref02_End_ev (r : Rf) (h : r.ok) : Ev tab G0 n_ref02_Reader_End [.ptr 0 0] [fO r] = some ([i64 r.fin], [fO r]) := by
  obtain ⟨B, p, bad⟩ := r
  obtain ⟨h3, h4⟩ := h
  simp only at h3 h4
  refine Ev_run t_ref02_Reader_End rfl rfl ?_
  simp (maxSteps := 1000000) (disch := first | omega | (simp only [lens, List.length_map]; omega)) only [go_sem, ↓reduceIte, Nat.reduceSub, Nat.reduceAdd, Nat.reduceMul, Nat.reduceLeDiff, Nat.reduceLT, Nat.reduceEqDiff, Nat.reduceBEq, Int.reduceLE, Int.reduceLT, Int.reduceEq, Int.reduceNeg, Int.reduceAdd, Int.reduceSub, Int.reduceMul, Int.reduceToNat, i_ref02_Reader_End, Rf.fin]
  (repeat' split) <;> first | rfl | (exfalso; omega) | (simp_all; done) | (simp_all; omega)

end Go.Proofs.Ytkfaahjcncpmhaa
