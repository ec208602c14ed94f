/- The IR is the program's. -/
import Derived.Test.YtkfaahjcncpmhaaIr
import Derived.Test.YtkfaahjcncpmhaaChecked
set_option linter.unusedVariables false
namespace Go.Proofs.Ytkfaahjcncpmhaa
open Go.Ev

theorem ok_law17_ConfStays : trFn Try.prog Try.f7 i_law17_ConfStays = some i_law17_ConfStays := by kernel_rfl
theorem ok_law17_up : trFn Try.prog Try.f15 i_law17_up = some i_law17_up := by kernel_rfl
theorem ok_conf_Most : trFn Try.prog Try.f18 i_conf_Most = some i_conf_Most := by kernel_rfl
theorem ok_conf_Has : trFn Try.prog Try.f16 i_conf_Has = some i_conf_Has := by kernel_rfl
theorem ok_slices_Contains_sl_int_int : trFn Try.prog Try.f53 i_slices_Contains_sl_int_int = some i_slices_Contains_sl_int_int := by kernel_rfl
theorem ok_slices_Index_sl_int_int : trFn Try.prog Try.f91 i_slices_Index_sl_int_int = some i_slices_Index_sl_int_int := by kernel_rfl
theorem ok_conf_May : trFn Try.prog Try.f27 i_conf_May = some i_conf_May := by kernel_rfl
theorem ok_conf_Step : trFn Try.prog Try.f20 i_conf_Step = some i_conf_Step := by kernel_rfl
theorem ok_conf_Step_1 : trFn Try.prog Try.f55 i_conf_Step_1 = some i_conf_Step_1 := by kernel_rfl
theorem ok_slices_ContainsFunc_sl_int_int : trFn Try.prog Try.f54 i_slices_ContainsFunc_sl_int_int = some i_slices_ContainsFunc_sl_int_int := by kernel_rfl
theorem ok_slices_IndexFunc_sl_int_int : trFn Try.prog Try.f92 i_slices_IndexFunc_sl_int_int = some i_slices_IndexFunc_sl_int_int := by kernel_rfl
theorem ok_conf_Bytes_v1 : trFn Try.prog Try.f23 i_conf_Bytes_v1 = some i_conf_Bytes_v1 := by kernel_rfl
theorem ok_conf_Of_v1 : trFn Try.prog Try.f24 i_conf_Of_v1 = some i_conf_Of_v1 := by kernel_rfl
theorem ok_ref17_Same : trFn Try.prog Try.f22 i_ref17_Same = some i_ref17_Same := by kernel_rfl
theorem tabOk : TabOk Try.prog tab := fun f fn h => by
  unfold tab at h
  split at h
  · cases h; exact ⟨Try.f7, i_law17_ConfStays, Try.func7, ok_law17_ConfStays⟩
  · cases h; exact ⟨Try.f15, i_law17_up, Try.func15, ok_law17_up⟩
  · cases h; exact ⟨Try.f18, i_conf_Most, Try.func18, ok_conf_Most⟩
  · cases h; exact ⟨Try.f16, i_conf_Has, Try.func16, ok_conf_Has⟩
  · cases h; exact ⟨Try.f53, i_slices_Contains_sl_int_int, Try.func53, ok_slices_Contains_sl_int_int⟩
  · cases h; exact ⟨Try.f91, i_slices_Index_sl_int_int, Try.func91, ok_slices_Index_sl_int_int⟩
  · cases h; exact ⟨Try.f27, i_conf_May, Try.func27, ok_conf_May⟩
  · cases h; exact ⟨Try.f20, i_conf_Step, Try.func20, ok_conf_Step⟩
  · cases h; exact ⟨Try.f55, i_conf_Step_1, Try.func55, ok_conf_Step_1⟩
  · cases h; exact ⟨Try.f54, i_slices_ContainsFunc_sl_int_int, Try.func54, ok_slices_ContainsFunc_sl_int_int⟩
  · cases h; exact ⟨Try.f92, i_slices_IndexFunc_sl_int_int, Try.func92, ok_slices_IndexFunc_sl_int_int⟩
  · cases h; exact ⟨Try.f23, i_conf_Bytes_v1, Try.func23, ok_conf_Bytes_v1⟩
  · cases h; exact ⟨Try.f24, i_conf_Of_v1, Try.func24, ok_conf_Of_v1⟩
  · cases h; exact ⟨Try.f22, i_ref17_Same, Try.func22, ok_ref17_Same⟩
  · cases h
end Go.Proofs.Ytkfaahjcncpmhaa
