/-
  Trees out of bytes: the document's.
-/
import Derived.Test.YtkfaahjcncpmhaaLTree5
import Derived.Test.YtkfaahjcncpmhaaLSim
import Derived.Test.YtkfaahjcncpmhaaLCodeR3
set_option linter.unusedSimpArgs false
set_option linter.unusedVariables false
set_option maxRecDepth 200000
set_option maxHeartbeats 4000000
namespace Go.Proofs.Ytkfaahjcncpmhaa
open Go.Ev

def Rf.kd (r : Rf) : Int := r.byte.1.toNat
theorem Rf.kd_le (r : Rf) : 0 ≤ r.kd ∧ r.kd < 256 := by
  have := r.byte.1.toNat_lt
  unfold Rf.kd
  omega
def hdF (r : Rf) : T × Rf :=
  if r.kd = 3 then (.mk 3 [] [] (r.byte.2.bytes 32).1 [], (r.byte.2.bytes 32).2)
  else if r.kd = 1 then (.mk 1 (r.byte.2.bytes 80).1 ((r.byte.2.bytes 80).2.bytes 1024).1 [] [], ((r.byte.2.bytes 80).2.bytes 1024).2)
  else if r.kd = 2 then (.mk 2 (r.byte.2.bytes 80).1 [] ((r.byte.2.bytes 80).2.bytes 32).1 [], ((r.byte.2.bytes 80).2.bytes 32).2)
  else (.mk r.kd [] [] [] [], r.byte.2)
theorem hdF_3 {r : Rf} (h : r.kd = 3) : hdF r = (.mk 3 [] [] (r.byte.2.bytes 32).1 [], (r.byte.2.bytes 32).2) := by unfold hdF; rw [if_pos h]
theorem hdF_1 {r : Rf} (h : r.kd = 1) : hdF r = (.mk 1 (r.byte.2.bytes 80).1 ((r.byte.2.bytes 80).2.bytes 1024).1 [] [], ((r.byte.2.bytes 80).2.bytes 1024).2) := by unfold hdF; rw [if_neg (by omega), if_pos h]
theorem hdF_2 {r : Rf} (h : r.kd = 2) : hdF r = (.mk 2 (r.byte.2.bytes 80).1 [] ((r.byte.2.bytes 80).2.bytes 32).1 [], ((r.byte.2.bytes 80).2.bytes 32).2) := by unfold hdF; rw [if_neg (by omega), if_neg (by omega), if_pos h]
theorem hdF_x {r : Rf} (h3 : ¬ r.kd = 3) (h1 : ¬ r.kd = 1) (h2 : ¬ r.kd = 2) : hdF r = (.mk r.kd [] [] [] [], r.byte.2) := by unfold hdF; rw [if_neg h3, if_neg h1, if_neg h2]
theorem hdF_ok (r : Rf) (h : r.ok) : (hdF r).2.ok := by
  have h1 := r.byte_ok h
  have h2 := (r.byte.2.bytes_ok 80 h1).1
  by_cases k3 : r.kd = 3
  · rw [hdF_3 k3]; exact (r.byte.2.bytes_ok 32 h1).1
  · by_cases k1 : r.kd = 1
    · rw [hdF_1 k1]; exact ((r.byte.2.bytes 80).2.bytes_ok 1024 h2).1
    · by_cases k2 : r.kd = 2
      · rw [hdF_2 k2]; exact ((r.byte.2.bytes 80).2.bytes_ok 32 h2).1
      · rw [hdF_x k3 k1 k2]; exact h1
abbrev Rf.spoil (r : Rf) : Rf := ⟨r.B, r.p, true⟩
def rfT : Nat → Rf → T × Rf
  | 0, r =>
    if 0 < r.kd ∧ ¬ r.kd = 3 then (.mk r.kd [] [] [] [], r.byte.2.spoil) else if r.byte.2.bad = true ∨ r.kd = 0 then (.mk r.kd [] [] [] [], r.byte.2) else hdF r
  | d + 1, r =>
    if 3 < r.kd then (.mk r.kd [] [] [] [], r.byte.2.spoil)
    else if r.byte.2.bad = true ∨ r.kd = 0 then (.mk r.kd [] [] [] [], r.byte.2)
    else if r.kd = 3 ∨ (hdF r).2.bad = true then hdF r
    else ((hdF r).1.with [(rfT d (hdF r).2).1, (rfT d (rfT d (hdF r).2).2).1], (rfT d (rfT d (hdF r).2).2).2)
end Go.Proofs.Ytkfaahjcncpmhaa
