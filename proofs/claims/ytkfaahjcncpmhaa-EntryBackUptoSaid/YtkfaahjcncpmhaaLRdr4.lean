/-
  The document's reader of counts: its loops.
-/
import Derived.Test.YtkfaahjcncpmhaaLRdr2
set_option linter.unusedSimpArgs false
set_option linter.unusedVariables false
set_option maxRecDepth 200000
set_option maxHeartbeats 4000000
namespace Go.Proofs.Ytkfaahjcncpmhaa
open Go.Ev

def Rf.cnt (w : Rf) : Int × Rf := if 1152921504606846976 < w.num.1 then (0, w.num.2.spoil) else w.num
theorem Rf.cnt_ok (w : Rf) (h : w.ok) : w.cnt.2.ok ∧ 0 ≤ w.cnt.1 ∧ w.cnt.1 ≤ 1152921504606846976 := by
  have h1 := w.num_ok h
  unfold Rf.cnt
  split
  · exact ⟨h1.1, by simp only; omega⟩
  · exact ⟨h1.1, by omega⟩
def fmem : Nat → Rf → List Int → List Int × Rf
  | 0, w, l => (l, w)
  | n + 1, w, l => if w.bad = true then (l, w) else fmem n w.cnt.2 (l ++ [w.cnt.1])
def Rf.mems (w : Rf) : List Int × Rf := fmem w.cnt.1.toNat w.cnt.2 []
def Rf.ent1 (w : Rf) : Ent × Rf := ((w.cnt.1, w.cnt.2.cnt.1, (w.cnt.2.cnt.2.bytes 4096).1), (w.cnt.2.cnt.2.bytes 4096).2)
def fent : Nat → Rf → List Ent → List Ent × Rf
  | 0, w, l => (l, w)
  | n + 1, w, l => if w.bad = true then (l, w) else fent n w.ent1.2 (l ++ [w.ent1.1])
def Rf.ents (w : Rf) : List Ent × Rf := fent w.cnt.1.toNat w.cnt.2 []
theorem fmem_no {n : Nat} {w : Rf} {l : List Int} (h : w.bad = true) : fmem n w l = (l, w) := by
  cases n
  · rfl
  · unfold fmem; rw [if_pos h]
theorem fmem_go {n : Nat} {w : Rf} {l : List Int} (h : w.bad = false) : fmem (n + 1) w l = fmem n w.cnt.2 (l ++ [w.cnt.1]) := by
  rw [fmem, if_neg (by simp [h])]
theorem fent_no {n : Nat} {w : Rf} {l : List Ent} (h : w.bad = true) : fent n w l = (l, w) := by
  cases n
  · rfl
  · unfold fent; rw [if_pos h]
theorem fent_go {n : Nat} {w : Rf} {l : List Ent} (h : w.bad = false) : fent (n + 1) w l = fent n w.ent1.2 (l ++ [w.ent1.1]) := by
  rw [fent, if_neg (by simp [h])]
def Rf.left (w : Rf) : Nat := w.B.length - w.p
theorem fbyte_pr (w : Rf) (h : w.bad = false) : w.byte.2.bad = true ∨ w.byte.2.left + 1 ≤ w.left := by
  unfold Rf.byte Rf.left
  rw [if_neg (by simp [h])]
  split
  · exact .inl rfl
  · right; simp only; omega
theorem fnum_pr (w : Rf) (h : w.bad = false) : w.num.2.bad = true ∨ w.num.2.left + 1 ≤ w.left := by
  have h1 := fbyte_pr w h
  simp only [Rf.num]
  split
  · rename_i h2; exact .inl h2
  · rename_i h2
    have h3 : w.byte.2.left + 1 ≤ w.left := h1.resolve_left h2
    split
    · exact .inr h3
    · split
      · exact .inl rfl
      · split
        · exact .inl rfl
        · right
          simp only [Rf.left] at *
          omega
theorem fcnt_pr (w : Rf) (h : w.bad = false) : w.cnt.2.bad = true ∨ w.cnt.2.left + 1 ≤ w.left := by
  unfold Rf.cnt
  split
  · exact .inl rfl
  · exact fnum_pr w h
def hF0 (l : List Int) (w : Rf) : Heap := match l with
  | [] => [none, some (fO w)]
  | x :: l => [some (rowI2 (x :: l)), some (fO w)]
end Go.Proofs.Ytkfaahjcncpmhaa
