/-
  Trees out of bytes: the document's, any.
-/
import Derived.Test.YtkfaahjcncpmhaaLCodeF
set_option linter.unusedSimpArgs false
set_option linter.unusedVariables false
set_option maxRecDepth 200000
set_option maxHeartbeats 4000000
namespace Go.Proofs.Ytkfaahjcncpmhaa
open Go.Ev

theorem spoil_ok {r : Rf} (h : r.ok) : r.spoil.ok := h
theorem rfT_x0 {r : Rf} (h : 0 < r.kd ∧ ¬ r.kd = 3) : rfT 0 r = (.mk r.kd [] [] [] [], r.byte.2.spoil) := by unfold rfT; rw [if_pos h]
theorem rfT_x {r : Rf} {d : Nat} (h : 3 < r.kd) : rfT d r = (.mk r.kd [] [] [] [], r.byte.2.spoil) := by
  cases d with
  | zero => unfold rfT; rw [if_pos (by omega)]
  | succ d => unfold rfT; rw [if_pos h]
theorem rfT_0 {r : Rf} {d : Nat} (h : r.kd = 0) : rfT d r = (.mk r.kd [] [] [] [], r.byte.2) := by
  cases d with
  | zero => unfold rfT; rw [if_neg (by omega), if_pos (.inr h)]
  | succ d => unfold rfT; rw [if_neg (by omega), if_pos (.inr h)]
theorem rfT_3 {r : Rf} {d : Nat} (h : r.kd = 3) (hx : r.byte.2.bad = false) : rfT d r = hdF r := by
  have hn : ¬ (r.byte.2.bad = true ∨ r.kd = 0) := by rw [hx, h]; simp
  cases d with
  | zero => unfold rfT; rw [if_neg (by omega), if_neg hn]
  | succ d => unfold rfT; rw [if_neg (by omega), if_neg hn, if_pos (.inl h)]
theorem rfT_b {r : Rf} {d : Nat} (h : r.kd = 1 ∨ r.kd = 2) (hx : r.byte.2.bad = false) (hb : (hdF r).2.bad = true) : rfT (d + 1) r = hdF r := by
  have hn : ¬ (r.byte.2.bad = true ∨ r.kd = 0) := by rw [hx]; simp; omega
  rw [rfT, if_neg (by omega), if_neg hn, if_pos (.inr hb)]
theorem rfT_d {r : Rf} {d : Nat} (h : r.kd = 1 ∨ r.kd = 2) (hx : r.byte.2.bad = false) (hb : (hdF r).2.bad = false) : rfT (d + 1) r = ((hdF r).1.with [(rfT d (hdF r).2).1, (rfT d (rfT d (hdF r).2).2).1], (rfT d (rfT d (hdF r).2).2).2) := by
  have hn : ¬ (r.byte.2.bad = true ∨ r.kd = 0) := by rw [hx]; simp; omega
  rw [rfT, if_neg (by omega), if_neg hn, if_neg (by rw [hb]; simp; omega)]
theorem fbyte_bad {r : Rf} (h : r.byte.2.bad = true) : r.kd = 0 := by
  revert h
  unfold Rf.kd Rf.byte
  split
  · exact fun _ => rfl
  · split
    · exact fun _ => rfl
    · intro h; cases h
/-- What is amiss with bytes, and their tree. -/
def rfR (b : List UInt8) : T × Rf := rfT 64 ⟨b, 0, false⟩
def rfC (b : List UInt8) : Int := (rfR b).2.fin
def rfV (b : List UInt8) : T := if rfC b = 0 then (rfR b).1 else .no
end Go.Proofs.Ytkfaahjcncpmhaa
