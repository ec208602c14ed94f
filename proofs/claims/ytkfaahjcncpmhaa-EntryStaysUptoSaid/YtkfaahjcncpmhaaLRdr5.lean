/-
  The document's reader of counts: its loops.
-/
import Derived.Test.YtkfaahjcncpmhaaLRdr2
set_option linter.unusedSimpArgs false
set_option linter.unusedVariables false
set_option maxRecDepth 200000
set_option maxHeartbeats 4000000
namespace Go.Proofs.Ytkfaahjcncpmhaa
open Go.Ev

def Rf.cnt (w : Rf) : Int × Rf := if 1152921504606846976 < w.num.1 then (0, w.num.2.spoil) else w.num
theorem Rf.cnt_ok (w : Rf) (h : w.ok) : w.cnt.2.ok ∧ 0 ≤ w.cnt.1 ∧ w.cnt.1 ≤ 1152921504606846976 := by
  have h1 := w.num_ok h
  unfold Rf.cnt
  split
  · exact ⟨h1.1, by simp only; omega⟩
  · exact ⟨h1.1, by omega⟩
def fmem : Nat → Rf → List Int → List Int × Rf
  | 0, w, l => (l, w)
  | n + 1, w, l => if w.bad = true then (l, w) else fmem n w.cnt.2 (l ++ [w.cnt.1])
def Rf.mems (w : Rf) : List Int × Rf := fmem w.cnt.1.toNat w.cnt.2 []
def Rf.ent1 (w : Rf) : Ent × Rf := ((w.cnt.1, w.cnt.2.cnt.1, (w.cnt.2.cnt.2.bytes 4096).1), (w.cnt.2.cnt.2.bytes 4096).2)
def fent : Nat → Rf → List Ent → List Ent × Rf
  | 0, w, l => (l, w)
  | n + 1, w, l => if w.bad = true then (l, w) else fent n w.ent1.2 (l ++ [w.ent1.1])
def Rf.ents (w : Rf) : List Ent × Rf := fent w.cnt.1.toNat w.cnt.2 []
theorem fmem_no {n : Nat} {w : Rf} {l : List Int} (h : w.bad = true) : fmem n w l = (l, w) := by
  cases n
  · rfl
  · unfold fmem; rw [if_pos h]
theorem fmem_go {n : Nat} {w : Rf} {l : List Int} (h : w.bad = false) : fmem (n + 1) w l = fmem n w.cnt.2 (l ++ [w.cnt.1]) := by
  rw [fmem, if_neg (by simp [h])]
theorem fent_no {n : Nat} {w : Rf} {l : List Ent} (h : w.bad = true) : fent n w l = (l, w) := by
  cases n
  · rfl
  · unfold fent; rw [if_pos h]
theorem fent_go {n : Nat} {w : Rf} {l : List Ent} (h : w.bad = false) : fent (n + 1) w l = fent n w.ent1.2 (l ++ [w.ent1.1]) := by
  rw [fent, if_neg (by simp [h])]
def Rf.left (w : Rf) : Nat := w.B.length - w.p
theorem fbyte_pr (w : Rf) (h : w.bad = false) : w.byte.2.bad = true ∨ w.byte.2.left + 1 ≤ w.left := by
  unfold Rf.byte Rf.left
  rw [if_neg (by simp [h])]
  split
  · exact .inl rfl
  · right; simp only; omega
theorem fnum_pr (w : Rf) (h : w.bad = false) : w.num.2.bad = true ∨ w.num.2.left + 1 ≤ w.left := by
  have h1 := fbyte_pr w h
  simp only [Rf.num]
  split
  · rename_i h2; exact .inl h2
  · rename_i h2
    have h3 : w.byte.2.left + 1 ≤ w.left := h1.resolve_left h2
    split
    · exact .inr h3
    · split
      · exact .inl rfl
      · split
        · exact .inl rfl
        · right
          simp only [Rf.left] at *
          omega
theorem fcnt_pr (w : Rf) (h : w.bad = false) : w.cnt.2.bad = true ∨ w.cnt.2.left + 1 ≤ w.left := by
  unfold Rf.cnt
  split
  · exact .inl rfl
  · exact fnum_pr w h
def hF0 (l : List Int) (w : Rf) : Heap := match l with
  | [] => [none, some (fO w)]
  | x :: l => [some (rowI2 (x :: l)), some (fO w)]
end Go.Proofs.Ytkfaahjcncpmhaa
namespace Go.Proofs.Ytkfaahjcncpmhaa
open Go.Ev

theorem eEe2 {x : Ent} : (eE [x]).isEmpty = false := rfl
theorem eE_s1 {a b : Int} {c : List UInt8} : ([[C.sc (.int .i64 0), C.sc (.int .i64 0), C.sl []]] : List (List C)).set 0 [C.sc (.int .i64 a), C.sc (.int .i64 b), C.sl (eB c)] = eE [(a, b, c)] := rfl
theorem fent1_ok (w : Rf) (h : w.ok) : w.ent1.2.ok := by
  have h1 := w.cnt_ok h
  have h2 := w.cnt.2.cnt_ok h1.1
  exact (w.cnt.2.cnt.2.bytes_ok 4096 h2.1).1
theorem fnum_left (w : Rf) : w.num.2.left ≤ w.left ∧ (w.bad = true → w.num.2.bad = true) := by
  have hb : w.byte.2.left ≤ w.left ∧ (w.bad = true → w.byte.2.bad = true) := by
    unfold Rf.byte Rf.left
    split
    · exact ⟨Nat.le_refl _, fun _ => rfl⟩
    · rename_i h
      split
      · exact ⟨Nat.le_refl _, fun _ => rfl⟩
      · exact ⟨by simp only; omega, fun x => absurd x h⟩
  simp only [Rf.num]
  split
  · exact hb
  · rename_i h2
    have hz : w.bad = true → False := fun h => h2 (hb.2 h)
    refine ⟨?_, fun h => (hz h).elim⟩
    have := hb.1
    split
    · exact this
    · split
      · exact this
      · split
        · exact this
        · simp only [Rf.left] at *; omega
theorem fcnt_left (w : Rf) : w.cnt.2.left ≤ w.left ∧ (w.bad = true → w.cnt.2.bad = true) := by
  have h := fnum_left w
  unfold Rf.cnt
  split
  · exact ⟨h.1, fun _ => rfl⟩
  · exact h
theorem fbytes_left (w : Rf) (m : Int) : (w.bytes m).2.left ≤ w.left ∧ (w.bad = true → (w.bytes m).2.bad = true) := by
  have h := fnum_left w
  simp only [Rf.bytes]
  split
  · exact ⟨h.1, fun _ => rfl⟩
  · refine ⟨?_, fun h2 => h.2 h2⟩
    have := h.1
    simp only [Rf.left] at *
    omega
theorem fent1_pr (w : Rf) (h : w.bad = false) : w.ent1.2.bad = true ∨ w.ent1.2.left + 1 ≤ w.left := by
  have h1 := fcnt_left w.cnt.2
  have h2 := fbytes_left w.cnt.2.cnt.2 4096
  rcases fcnt_pr w h with h3 | h3
  · exact .inl (h2.2 (h1.2 h3))
  · right
    simp only [Rf.ent1]
    omega
def hG0 (l : List Ent) (w : Rf) : Heap := match l with
  | [] => [none, none, some (fO w)]
  | x :: l => [none, some (rowE2 (x :: l)), some (fO w)]
end Go.Proofs.Ytkfaahjcncpmhaa
