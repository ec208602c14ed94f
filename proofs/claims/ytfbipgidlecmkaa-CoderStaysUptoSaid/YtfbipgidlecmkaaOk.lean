/- The IR is the program's. -/
import Derived.Test.YtfbipgidlecmkaaIr
import Derived.Test.YtfbipgidlecmkaaChecked
set_option linter.unusedVariables false
namespace Go.Proofs.Ytfbipgidlecmkaa
open Go.Ev

theorem ok_law02_CoderStays : trFn Try.prog Try.f11 i_law02_CoderStays = some i_law02_CoderStays := by kernel_rfl
theorem ok_coder_Bytes_v1 : trFn Try.prog Try.f20 i_coder_Bytes_v1 = some i_coder_Bytes_v1 := by kernel_rfl
theorem ok_coder_Number : trFn Try.prog Try.f18 i_coder_Number = some i_coder_Number := by kernel_rfl
theorem ok_coder_NewReader_v1 : trFn Try.prog Try.f24 i_coder_NewReader_v1 = some i_coder_NewReader_v1 := by kernel_rfl
theorem ok_slices_Clone_sl_byte_byte_v1 : trFn Try.prog Try.f46 i_slices_Clone_sl_byte_byte_v1 = some i_slices_Clone_sl_byte_byte_v1 := by kernel_rfl
theorem ok_coder_Reader_Bytes : trFn Try.prog Try.f35 i_coder_Reader_Bytes = some i_coder_Reader_Bytes := by kernel_rfl
theorem ok_coder_Reader_Number : trFn Try.prog Try.f25 i_coder_Reader_Number = some i_coder_Reader_Number := by kernel_rfl
theorem ok_coder_Reader_Byte : trFn Try.prog Try.f38 i_coder_Reader_Byte = some i_coder_Reader_Byte := by kernel_rfl
theorem ok_coder_Reader_take : trFn Try.prog Try.f47 i_coder_Reader_take = some i_coder_Reader_take := by kernel_rfl
theorem tabOk : TabOk Try.prog tab := fun f fn h => by
  unfold tab at h
  split at h
  · cases h; exact ⟨Try.f11, i_law02_CoderStays, Try.func11, ok_law02_CoderStays⟩
  · cases h; exact ⟨Try.f20, i_coder_Bytes_v1, Try.func20, ok_coder_Bytes_v1⟩
  · cases h; exact ⟨Try.f18, i_coder_Number, Try.func18, ok_coder_Number⟩
  · cases h; exact ⟨Try.f24, i_coder_NewReader_v1, Try.func24, ok_coder_NewReader_v1⟩
  · cases h; exact ⟨Try.f46, i_slices_Clone_sl_byte_byte_v1, Try.func46, ok_slices_Clone_sl_byte_byte_v1⟩
  · cases h; exact ⟨Try.f35, i_coder_Reader_Bytes, Try.func35, ok_coder_Reader_Bytes⟩
  · cases h; exact ⟨Try.f25, i_coder_Reader_Number, Try.func25, ok_coder_Reader_Number⟩
  · cases h; exact ⟨Try.f38, i_coder_Reader_Byte, Try.func38, ok_coder_Reader_Byte⟩
  · cases h; exact ⟨Try.f47, i_coder_Reader_take, Try.func47, ok_coder_Reader_take⟩
  · cases h
end Go.Proofs.Ytfbipgidlecmkaa
