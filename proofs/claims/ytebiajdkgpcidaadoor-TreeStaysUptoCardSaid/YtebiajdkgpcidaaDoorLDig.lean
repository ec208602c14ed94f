/-
  A digest by a width.
-/
import Derived.Test.YtebiajdkgpcidaaDoorLSum
import Derived.Test.YtebiajdkgpcidaaDoorLMade3
import Derived.Test.YtebiajdkgpcidaaDoorLDigest
set_option linter.unusedSimpArgs false
set_option linter.unusedVariables false
set_option maxRecDepth 200000
set_option maxHeartbeats 4000000
namespace Go.Proofs.YtebiajdkgpcidaaDoor
open Go.Ev

def dg (w : Int) (b : List UInt8) : List UInt8 := (shaS b).take w.toNat
theorem dg_len (w : Int) (b : List UInt8) (h : 0 ≤ w ∧ w ≤ 32) : (dg w b).length = w.toNat := by
  rw [dg, List.length_take, shaS_len]; omega
end Go.Proofs.YtebiajdkgpcidaaDoor
