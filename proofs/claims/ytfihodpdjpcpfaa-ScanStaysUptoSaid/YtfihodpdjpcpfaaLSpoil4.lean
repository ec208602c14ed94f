/-
  The region that writes, but for the write.
-/
import Derived.Test.YtfihodpdjpcpfaaLSpoil3
set_option linter.unusedSimpArgs false
set_option linter.unusedVariables false
set_option maxRecDepth 200000
set_option maxHeartbeats 4000000
namespace Go.Proofs.Ytfihodpdjpcpfaa
open Go.Ev

theorem last12 : ops12[16]? = some store12 := by kernel_rfl
theorem op12 : store12.op = .store 5 (.tmp 60) (.tmp 59) := by kernel_rfl
theorem dst12 : store12.dst = none := by kernel_rfl
theorem all12 : ((List.range 16).all fun j => store12.after.toList.any fun e => decide (e.on = j) && Region.binds .any e) = true := by kernel_rfl
noncomputable def idle12 : Oper := { store12 with op := .move (.const (.bool true)) }
noncomputable def opsI : Array Oper := ops12.setIfInBounds 16 idle12
def qsI : List Opr := [
  ⟨(some 45), .mv (.t 8), none, []⟩,
  ⟨(some 46), .mv (.t 11), none, []⟩,
  ⟨(some 47), .ia 2 (.t 45) (.t 46), none, []⟩,
  ⟨(some 48), .fa 1 (.t 47), none, []⟩,
  ⟨(some 49), .load false 1 (.t 48), none, []⟩,
  ⟨(some 50), .mv (.t 12), none, []⟩,
  ⟨(some 51), .mv (.t 8), none, []⟩,
  ⟨(some 52), .mv (.t 11), none, []⟩,
  ⟨(some 53), .ia 2 (.t 51) (.t 52), none, []⟩,
  ⟨(some 54), .fa 1 (.t 53), none, []⟩,
  ⟨(some 55), .load false 1 (.t 54), none, []⟩,
  ⟨(some 56), .mv (.t 12), none, []⟩,
  ⟨(some 57), .ia 1 (.t 55) (.t 56), none, []⟩,
  ⟨(some 58), .load false 1 (.t 57), none, []⟩,
  ⟨(some 59), .bin .plain .add (.t 58) (.k (.int .u8 1)), none, []⟩,
  ⟨(some 60), .ia 1 (.t 49) (.t 50), none, []⟩,
  ⟨none, .mv (.k (.bool true)), none, []⟩]
theorem trI : trReg Try.prog opsI true [] qsI = some qsI := by kernel_rfl

end Go.Proofs.Ytfihodpdjpcpfaa
