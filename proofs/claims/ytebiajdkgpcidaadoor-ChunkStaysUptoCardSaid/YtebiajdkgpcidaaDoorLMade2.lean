/-
  The tables of the document are those of the program.
-/
import Derived.Test.YtebiajdkgpcidaaDoorLMade
set_option linter.unusedSimpArgs false
set_option linter.unusedVariables false
set_option maxRecDepth 200000
set_option maxHeartbeats 4000000
namespace Go.Proofs.YtebiajdkgpcidaaDoor
open Go.Ev

def rkA : List Int → AV
  | [] => .nilsl
  | b :: l => .row 3 (l.length + 1)
def rkO : List Int → Option Ev.Obj
  | [] => none
  | b :: l => some (.row ty_uint32 1 true false (eI .u32 (b :: l)))
theorem rkA_ne {l : List Int} (h : l ≠ []) : rkA l = .row 3 l.length := by cases l with | nil => exact absurd rfl h | cons b l => rfl
theorem rkO_ne {l : List Int} (h : l ≠ []) : rkO l = some (.row ty_uint32 1 true false (eI .u32 l)) := by cases l with | nil => exact absurd rfl h | cons b l => rfl
def rootsK (l : List Int) : Nat → Nat → List Int → List Int
  | 0, _, o => o
  | n + 1, i, o => rootsK l n (i + 1) (o ++ [rootP (l.getD i 0) true])
/-- The primes. -/
def primeL : List Int := primes 310 2 []
theorem primeL_eq : primeL = [2, 3, 5, 7, 11, 13, 17, 19, 23, 29, 31, 37, 41, 43, 47, 53, 59, 61, 67, 71, 73, 79, 83, 89, 97, 101, 103, 107, 109, 113, 127, 131, 137, 139, 149, 151, 157, 163, 167, 173, 179, 181, 191, 193, 197, 199, 211, 223, 227, 229, 233, 239, 241, 251, 257, 263, 269, 271, 277, 281, 283, 293, 307, 311] := by kernel_rfl
end Go.Proofs.YtebiajdkgpcidaaDoor
