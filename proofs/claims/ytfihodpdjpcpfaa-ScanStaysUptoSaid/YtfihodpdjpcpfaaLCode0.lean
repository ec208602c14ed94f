/-
  What the statements ask of errors: their numbers.
-/
import Derived.Test.YtfihodpdjpcpfaaIr
import Derived.KernelRfl
set_option linter.unusedSimpArgs false
set_option linter.unusedVariables false
set_option maxRecDepth 200000
set_option maxHeartbeats 4000000
namespace Go.Proofs.Ytfihodpdjpcpfaa
open Go.Ev

abbrev errA (c : Int) : AV := .s (.iface ty_api_Code (.int .i64 c))
def errV (c : Int) : AV := if c = 0 then .s .nilIface else errA c
theorem errV_refs (c : Int) : (errV c).refs = [] := by unfold errV; split <;> rfl
theorem errV_ren (r : Nat → Nat) (c : Int) : (errV c).ren r = errV c := by unfold errV; split <;> rfl
theorem errV_age (c : Int) : (errV c).age true = errV c := by unfold errV; split <;> rfl
attribute [go_sem] errV_refs errV_ren errV_age
end Go.Proofs.Ytfihodpdjpcpfaa
