/-
  The document's loop of entries.
-/
import Derived.Test.YtkfaahjcncpmhaaLRdr4
set_option linter.unusedSimpArgs false
set_option linter.unusedVariables false
set_option maxRecDepth 200000
set_option maxHeartbeats 4000000
namespace Go.Proofs.Ytkfaahjcncpmhaa
open Go.Ev

theorem eEe2 {x : Ent} : (eE [x]).isEmpty = false := rfl
theorem eE_s1 {a b : Int} {c : List UInt8} : ([[C.sc (.int .i64 0), C.sc (.int .i64 0), C.sl []]] : List (List C)).set 0 [C.sc (.int .i64 a), C.sc (.int .i64 b), C.sl (eB c)] = eE [(a, b, c)] := rfl
theorem fent1_ok (w : Rf) (h : w.ok) : w.ent1.2.ok := by
  have h1 := w.cnt_ok h
  have h2 := w.cnt.2.cnt_ok h1.1
  exact (w.cnt.2.cnt.2.bytes_ok 4096 h2.1).1
theorem fnum_left (w : Rf) : w.num.2.left ≤ w.left ∧ (w.bad = true → w.num.2.bad = true) := by
  have hb : w.byte.2.left ≤ w.left ∧ (w.bad = true → w.byte.2.bad = true) := by
    unfold Rf.byte Rf.left
    split
    · exact ⟨Nat.le_refl _, fun _ => rfl⟩
    · rename_i h
      split
      · exact ⟨Nat.le_refl _, fun _ => rfl⟩
      · exact ⟨by simp only; omega, fun x => absurd x h⟩
  simp only [Rf.num]
  split
  · exact hb
  · rename_i h2
    have hz : w.bad = true → False := fun h => h2 (hb.2 h)
    refine ⟨?_, fun h => (hz h).elim⟩
    have := hb.1
    split
    · exact this
    · split
      · exact this
      · split
        · exact this
        · simp only [Rf.left] at *; omega
theorem fcnt_left (w : Rf) : w.cnt.2.left ≤ w.left ∧ (w.bad = true → w.cnt.2.bad = true) := by
  have h := fnum_left w
  unfold Rf.cnt
  split
  · exact ⟨h.1, fun _ => rfl⟩
  · exact h
theorem fbytes_left (w : Rf) (m : Int) : (w.bytes m).2.left ≤ w.left ∧ (w.bad = true → (w.bytes m).2.bad = true) := by
  have h := fnum_left w
  simp only [Rf.bytes]
  split
  · exact ⟨h.1, fun _ => rfl⟩
  · refine ⟨?_, fun h2 => h.2 h2⟩
    have := h.1
    simp only [Rf.left] at *
    omega
theorem fent1_pr (w : Rf) (h : w.bad = false) : w.ent1.2.bad = true ∨ w.ent1.2.left + 1 ≤ w.left := by
  have h1 := fcnt_left w.cnt.2
  have h2 := fbytes_left w.cnt.2.cnt.2 4096
  rcases fcnt_pr w h with h3 | h3
  · exact .inl (h2.2 (h1.2 h3))
  · right
    simp only [Rf.ent1]
    omega
def hG0 (l : List Ent) (w : Rf) : Heap := match l with
  | [] => [none, none, some (fO w)]
  | x :: l => [none, some (rowE2 (x :: l)), some (fO w)]
end Go.Proofs.Ytkfaahjcncpmhaa
