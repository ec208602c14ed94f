/-
  A slice of bytes that is nil, or a row.
-/
import Derived.Test.YtdngljdbgepaiaaGreatDoorIr
set_option linter.unusedSimpArgs false
set_option linter.unusedVariables false
set_option maxRecDepth 200000
set_option maxHeartbeats 4000000
namespace Go.Proofs.YtdngljdbgepaiaaGreatDoor
open Go.Ev

def rwA (s : Nat) : List UInt8 → AV
  | [] => .nilsl
  | b :: l => .row s (l.length + 1)
def rwO : List UInt8 → Option Ev.Obj
  | [] => none
  | b :: l => some (.row ty_uint8 1 true false (eB (b :: l)))
theorem rwA_ne {s : Nat} {l : List UInt8} (h : l ≠ []) : rwA s l = .row s l.length := by cases l with | nil => exact absurd rfl h | cons b l => rfl
theorem rwO_ne {l : List UInt8} (h : l ≠ []) : rwO l = some (.row ty_uint8 1 true false (eB l)) := by cases l with | nil => exact absurd rfl h | cons b l => rfl
theorem rwA_nil {s : Nat} : rwA s [] = .nilsl := rfl
theorem rwO_nil : rwO [] = none := rfl
attribute [go_sem] rwA_nil rwO_nil
end Go.Proofs.YtdngljdbgepaiaaGreatDoor
