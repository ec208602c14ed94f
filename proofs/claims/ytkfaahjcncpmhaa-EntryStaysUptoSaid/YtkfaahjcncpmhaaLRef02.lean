/-
  The document's reader, by the evaluator.
-/
import Derived.Test.YtkfaahjcncpmhaaLCoder
set_option linter.unusedSimpArgs false
set_option linter.unusedVariables false
set_option maxRecDepth 200000
set_option maxHeartbeats 4000000
namespace Go.Proofs.Ytkfaahjcncpmhaa
open Go.Ev

structure Rf where
  B : List UInt8
  p : Nat
  bad : Bool
abbrev fO (r : Rf) : Ev.Obj := .var [.sl true (eB r.B), i64 r.p, bo r.bad]
def Rf.ok (r : Rf) : Prop := r.B.length ≤ 1073741824 ∧ r.p ≤ r.B.length
def Rf.byte (r : Rf) : UInt8 × Rf := if r.bad = true then (0, ⟨r.B, r.p, true⟩) else if r.B.length ≤ r.p then (0, ⟨r.B, r.p, true⟩) else (r.B.getD r.p 0, ⟨r.B, r.p + 1, false⟩)
theorem Rf.byte_ok (r : Rf) (h : r.ok) : r.byte.2.ok := by
  unfold Rf.byte
  obtain ⟨h1, h2⟩ := h
  split
  · exact ⟨h1, h2⟩
  · split
    · exact ⟨h1, h2⟩
    · exact ⟨h1, by simp only; omega⟩
def Rf.num (r : Rf) : Int × Rf := let q := r.byte
  if q.2.bad = true then (q.1.toNat, q.2) else if q.1.toNat < 248 then (q.1.toNat, q.2) else
  let n := q.1.toNat - 247
  if q.2.B.length - q.2.p < n then (0, ⟨q.2.B, q.2.p, true⟩) else
  let l := (q.2.B.drop q.2.p).take n
  if l.getD 0 0 = 0 ∨ beV l < 248 then (0, ⟨q.2.B, q.2.p, true⟩) else (beV l, ⟨q.2.B, q.2.p + n, q.2.bad⟩)
theorem drop_get {l : List UInt8} {a i : Nat} : l.getD (a + i) 0 = (l.drop a).getD i 0 := by simp [List.getD, List.getElem?_drop]
theorem Rf.num_ok (r : Rf) (h : r.ok) : r.num.2.ok ∧ 0 ≤ r.num.1 ∧ r.num.1 < 18446744073709551616 := by
  have h1 := r.byte_ok h
  simp only [Rf.num]
  generalize r.byte = q at *
  obtain ⟨c, r1⟩ := q
  obtain ⟨h2, h3⟩ := h1
  simp only at *
  have hc := c.toNat_lt
  split
  · exact ⟨⟨h2, h3⟩, by omega⟩
  · split
    · exact ⟨⟨h2, h3⟩, by simp only; omega⟩
    · split
      · exact ⟨⟨h2, h3⟩, by simp only; omega⟩
      · split
        · exact ⟨⟨h2, h3⟩, by simp only; omega⟩
        · have := beV_lt (l := (r1.B.drop r1.p).take (c.toNat - 247)) (n := 8) (by simp; omega) (by omega)
          refine ⟨⟨h2, ?_⟩, by simp only; omega⟩
          simp only; omega
def Rf.bytes (r : Rf) (most : Int) : List UInt8 × Rf := let q := r.num
  if q.2.bad = true ∨ most < 0 ∨ most < q.1 ∨ (q.2.B.length - q.2.p : Nat) < q.1 then ([], ⟨q.2.B, q.2.p, true⟩) else ((q.2.B.drop q.2.p).take q.1.toNat, ⟨q.2.B, q.2.p + q.1.toNat, q.2.bad⟩)
theorem Rf.bytes_ok (r : Rf) (most : Int) (h : r.ok) : (r.bytes most).2.ok ∧ (r.bytes most).1.length ≤ 1073741824 := by
  have h2 := r.num_ok h
  simp only [Rf.bytes]
  generalize r.num = q at *
  obtain ⟨n, r1⟩ := q
  obtain ⟨⟨h3, h4⟩, h5⟩ := h2
  simp only at *
  split
  · exact ⟨⟨h3, h4⟩, by simp⟩
  · refine ⟨⟨h3, ?_⟩, by simp; omega⟩
    simp only; omega
def Rf.fin (r : Rf) : Int := if r.bad = true then 3 else if r.p < r.B.length then 4 else 0
end Go.Proofs.Ytkfaahjcncpmhaa
