/-
  Lists of pairs, as cells.
-/
import Derived.Test.YtfihodpdjpcpfaaLAvl9
set_option linter.unusedSimpArgs false
set_option linter.unusedVariables false
set_option maxRecDepth 200000
set_option maxHeartbeats 4000000
namespace Go.Proofs.Ytfihodpdjpcpfaa
open Go.Ev

abbrev pcells (x : KV) : List C := [.sl (eB x.1), .sl (eB x.2)]
def eP (l : List KV) : List (List C) := l.map fun x => [.sl (eB x.1), .sl (eB x.2)]
theorem eP_nil : eP [] = [] := rfl
theorem eP_len {l : List KV} : (eP l).length = l.length := by simp [eP]
theorem eP_sz {l : List KV} : szOk 2 (eP l) = true := by simp [szOk, eP]
theorem eP_get {l : List KV} {i : Nat} (h : i < l.length) : (eP l)[i]? = some [.sl (eB (l.getD i ([], [])).1), .sl (eB (l.getD i ([], [])).2)] := by
  simp [eP, List.getD, h]
theorem eP_app {a b : List KV} : eP a ++ eP b = eP (a ++ b) := by simp [eP]
theorem eP_one {a b : List UInt8} : [[C.sl (eB a), C.sl (eB b)]] = eP [(a, b)] := rfl
theorem eP_emp {x : KV} {l : List KV} : (eP (x :: l)).isEmpty = false := rfl
attribute [go_sem] eP_len eP_sz eP_get
def rpA (s : Nat) : List KV → AV
  | [] => .nilsl
  | _ :: l => .row s (l.length + 1)
def rpO : List KV → Option Ev.Obj
  | [] => none
  | x :: l => some (.row ty_api_Pair 2 true false (eP (x :: l)))
theorem rpA_ne {s : Nat} {l : List KV} (h : l ≠ []) : rpA s l = .row s l.length := by cases l with | nil => exact absurd rfl h | cons b l => rfl
theorem rpO_ne {l : List KV} (h : l ≠ []) : rpO l = some (.row ty_api_Pair 2 true false (eP l)) := by cases l with | nil => exact absurd rfl h | cons b l => rfl
theorem rpA_nil {s : Nat} : rpA s [] = .nilsl := rfl
theorem rpO_nil : rpO [] = none := rfl

end Go.Proofs.Ytfihodpdjpcpfaa
