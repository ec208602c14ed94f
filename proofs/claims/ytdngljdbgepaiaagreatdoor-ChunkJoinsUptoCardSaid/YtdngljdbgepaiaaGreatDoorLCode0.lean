/-
  What the statements ask of errors: their numbers.
-/
import Derived.Test.YtdngljdbgepaiaaGreatDoorIr
import Derived.KernelRfl
set_option linter.unusedSimpArgs false
set_option linter.unusedVariables false
set_option maxRecDepth 200000
set_option maxHeartbeats 4000000
namespace Go.Proofs.YtdngljdbgepaiaaGreatDoor
open Go.Ev

abbrev errA (c : Int) : AV := .s (.iface ty_api_Code (.int .i64 c))
def errV (c : Int) : AV := if c = 0 then .s .nilIface else errA c
theorem code_0 : evN tab G0 30 n_law00_Code [.s .nilIface] [] = some ([i64 0], []) := by kernel_rfl
theorem code_1 : evN tab G0 30 n_law00_Code [errA 1] [] = some ([i64 1], []) := by kernel_rfl
theorem code_2 : evN tab G0 30 n_law00_Code [errA 2] [] = some ([i64 2], []) := by kernel_rfl
theorem code_3 : evN tab G0 30 n_law00_Code [errA 3] [] = some ([i64 3], []) := by kernel_rfl
theorem code_4 : evN tab G0 30 n_law00_Code [errA 4] [] = some ([i64 4], []) := by kernel_rfl
theorem code_5 : evN tab G0 30 n_law00_Code [errA 5] [] = some ([i64 5], []) := by kernel_rfl
theorem code_6 : evN tab G0 30 n_law00_Code [errA 6] [] = some ([i64 6], []) := by kernel_rfl
theorem code_7 : evN tab G0 30 n_law00_Code [errA 7] [] = some ([i64 7], []) := by kernel_rfl
theorem code_8 : evN tab G0 30 n_law00_Code [errA 8] [] = some ([i64 8], []) := by kernel_rfl
theorem code_9 : evN tab G0 30 n_law00_Code [errA 9] [] = some ([i64 9], []) := by kernel_rfl
theorem code_10 : evN tab G0 30 n_law00_Code [errA 10] [] = some ([i64 10], []) := by kernel_rfl
theorem code_11 : evN tab G0 30 n_law00_Code [errA 11] [] = some ([i64 11], []) := by kernel_rfl
theorem code_12 : evN tab G0 30 n_law00_Code [errA 12] [] = some ([i64 12], []) := by kernel_rfl
theorem code_13 : evN tab G0 30 n_law00_Code [errA 13] [] = some ([i64 13], []) := by kernel_rfl
theorem law00_Code_ev (c : Int) (h : 0 ≤ c ∧ c ≤ 13) : Ev tab G0 n_law00_Code [errV c] [] = some ([i64 c], []) := by
  have : c = 0 ∨ c = 1 ∨ c = 2 ∨ c = 3 ∨ c = 4 ∨ c = 5 ∨ c = 6 ∨ c = 7 ∨ c = 8 ∨ c = 9 ∨ c = 10 ∨ c = 11 ∨ c = 12 ∨ c = 13 := by omega
  rcases this with rfl | rfl | rfl | rfl | rfl | rfl | rfl | rfl | rfl | rfl | rfl | rfl | rfl | rfl
  · exact Ev_by 30 code_0
  · exact Ev_by 30 code_1
  · exact Ev_by 30 code_2
  · exact Ev_by 30 code_3
  · exact Ev_by 30 code_4
  · exact Ev_by 30 code_5
  · exact Ev_by 30 code_6
  · exact Ev_by 30 code_7
  · exact Ev_by 30 code_8
  · exact Ev_by 30 code_9
  · exact Ev_by 30 code_10
  · exact Ev_by 30 code_11
  · exact Ev_by 30 code_12
  · exact Ev_by 30 code_13
theorem errV_refs (c : Int) : (errV c).refs = [] := by unfold errV; split <;> rfl
theorem errV_ren (r : Nat → Nat) (c : Int) : (errV c).ren r = errV c := by unfold errV; split <;> rfl
theorem errV_age (c : Int) : (errV c).age true = errV c := by unfold errV; split <;> rfl
attribute [go_sem] errV_refs errV_ren errV_age
end Go.Proofs.YtdngljdbgepaiaaGreatDoor
