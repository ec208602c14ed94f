/-
  Changes, one behind the other.
-/
import Derived.Test.YtfihodpdjpcpfaaLPair
set_option linter.unusedSimpArgs false
set_option linter.unusedVariables false
set_option maxRecDepth 200000
set_option maxHeartbeats 4000000
namespace Go.Proofs.Ytfihodpdjpcpfaa
open Go.Ev

structure Deed where
  k : List UInt8
  v : List UInt8
  out : Bool
def eD (l : List Deed) : List (List C) := l.map fun d => [.sl (eB d.k), .sl (eB d.v), .sc (.bool d.out)]
theorem eD_len {l : List Deed} : (eD l).length = l.length := by simp [eD]
theorem eD_sz {l : List Deed} : szOk 3 (eD l) = true := by simp [szOk, eD]
theorem eD_get {l : List Deed} {i : Nat} (h : i < l.length) : (eD l)[i]? = some [.sl (eB (l.getD i ⟨[], [], false⟩).k), .sl (eB (l.getD i ⟨[], [], false⟩).v), .sc (.bool (l.getD i ⟨[], [], false⟩).out)] := by
  simp [eD, List.getD, h]
attribute [go_sem] eD_len eD_sz eD_get
def notK (k : List UInt8) (x : KV) : Bool := !decide (cmp x.1 k = 0)
abbrev oD (d : Deed) : Ev.Obj := .var [.sl true (eB d.k), .sl true (eB d.v), bo d.out]
end Go.Proofs.Ytfihodpdjpcpfaa
