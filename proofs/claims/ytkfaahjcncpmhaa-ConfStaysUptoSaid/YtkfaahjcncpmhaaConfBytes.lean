/-
  Members' bytes, and back: the law.
-/
import Derived.Test.YtkfaahjcncpmhaaLConf2
import Derived.Test.YtkfaahjcncpmhaaLCode0
set_option linter.unusedSimpArgs false
set_option linter.unusedVariables false
set_option maxRecDepth 200000
set_option maxHeartbeats 4000000
namespace Go.Proofs.Ytkfaahjcncpmhaa
open Go.Ev

/-- A row of bytes, of numbers, that may be none. -/
def rbA : List UInt8 → AV
  | [] => .nilsl
  | x :: l => .row 0 (l.length + 1)
def rbO : List UInt8 → Option Ev.Obj
  | [] => none
  | x :: l => some (.row ty_uint8 1 true false (eB (x :: l)))
def riA : List Int → AV
  | [] => .nilsl
  | x :: l => .row 0 (l.length + 1)
def riO : List Int → Option Ev.Obj
  | [] => none
  | x :: l => some (.row ty_int 1 true false (eI .i64 (x :: l)))
theorem eI_appd {k : IntKind} {a b : List Int} : eI k a ++ eI k b = eI k (a ++ b) := by simp [eI]
theorem rbA_nil : rbA [] = .nilsl := rfl
theorem rbO_nil : rbO [] = none := rfl
theorem rbA_cons {x : UInt8} {l : List UInt8} : rbA (x :: l) = .row 0 (l.length + 1) := rfl
theorem rbO_cons {x : UInt8} {l : List UInt8} : rbO (x :: l) = some (.row ty_uint8 1 true false (eB (x :: l))) := rfl
theorem riA_nil : riA [] = .nilsl := rfl
theorem riO_nil : riO [] = none := rfl
theorem riA_cons {x : Int} {l : List Int} : riA (x :: l) = .row 0 (l.length + 1) := rfl
theorem riO_cons {x : Int} {l : List Int} : riO (x :: l) = some (.row ty_int 1 true false (eI .i64 (x :: l))) := rfl
theorem eB_emp {x : UInt8} {l : List UInt8} : (eB (x :: l)).isEmpty = false := rfl
theorem eI_emp {k : IntKind} {x : Int} {l : List Int} : (eI k (x :: l)).isEmpty = false := rfl
theorem rb_frz (r : List UInt8) : r = [] ∨ ∃ x l, r = x :: l := by cases r <;> simp
/-- The numbers of bytes. -/
def ofB (b : List UInt8) : List Int := b.map fun x => (x.toNat : Int)
theorem ofB_len (b : List UInt8) : (ofB b).length = b.length := by simp [ofB]
end Go.Proofs.Ytkfaahjcncpmhaa
