/- The IR is the program's. -/
import Derived.Test.YtebiajdkgpcidaaIr
import Derived.Test.YtebiajdkgpcidaaChecked
set_option linter.unusedVariables false
namespace Go.Proofs.Ytebiajdkgpcidaa
open Go.Ev

theorem ok_law10_CodeStays : trFn Try.prog Try.f15 i_law10_CodeStays = some i_law10_CodeStays := by kernel_rfl
theorem ok_law10_up : trFn Try.prog Try.f41 i_law10_up = some i_law10_up := by kernel_rfl
theorem ok_code_Write : trFn Try.prog Try.f43 i_code_Write = some i_code_Write := by kernel_rfl
theorem ok_tree_Check : trFn Try.prog Try.f63 i_tree_Check = some i_tree_Check := by kernel_rfl
theorem ok_tree_deep : trFn Try.prog Try.f86 i_tree_deep = some i_tree_deep := by kernel_rfl
theorem ok_tree_deep_1 : trFn Try.prog Try.f99 i_tree_deep_1 = some i_tree_deep_1 := by kernel_rfl
theorem ok_slices_ContainsFunc_sl_api_Tree_api_Tree : trFn Try.prog Try.f94 i_slices_ContainsFunc_sl_api_Tree_api_Tree = some i_slices_ContainsFunc_sl_api_Tree_api_Tree := by kernel_rfl
theorem ok_slices_IndexFunc_sl_api_Tree_api_Tree : trFn Try.prog Try.f104 i_slices_IndexFunc_sl_api_Tree_api_Tree = some i_slices_IndexFunc_sl_api_Tree_api_Tree := by kernel_rfl
theorem ok_tree_formed : trFn Try.prog Try.f87 i_tree_formed = some i_tree_formed := by kernel_rfl
theorem ok_tree_formed_1 : trFn Try.prog Try.f100 i_tree_formed_1 = some i_tree_formed_1 := by kernel_rfl
theorem ok_code_long : trFn Try.prog Try.f64 i_code_long = some i_code_long := by kernel_rfl
theorem ok_code_write : trFn Try.prog Try.f65 i_code_write = some i_code_write := by kernel_rfl
theorem ok_coder_Bytes : trFn Try.prog Try.f88 i_coder_Bytes = some i_coder_Bytes := by kernel_rfl
theorem ok_coder_Number : trFn Try.prog Try.f101 i_coder_Number = some i_coder_Number := by kernel_rfl
theorem ok_code_Read : trFn Try.prog Try.f45 i_code_Read = some i_code_Read := by kernel_rfl
theorem ok_coder_NewReader : trFn Try.prog Try.f68 i_coder_NewReader = some i_coder_NewReader := by kernel_rfl
theorem ok_slices_Clone_sl_byte_byte : trFn Try.prog Try.f50 i_slices_Clone_sl_byte_byte = some i_slices_Clone_sl_byte_byte := by kernel_rfl
theorem ok_code_Read_1 : trFn Try.prog Try.f69 i_code_Read_1 = some i_code_Read_1 := by kernel_rfl
theorem ok_coder_Reader_Byte : trFn Try.prog Try.f70 i_coder_Reader_Byte = some i_coder_Reader_Byte := by kernel_rfl
theorem ok_coder_Reader_take : trFn Try.prog Try.f90 i_coder_Reader_take = some i_coder_Reader_take := by kernel_rfl
theorem ok_coder_Reader_Bytes : trFn Try.prog Try.f71 i_coder_Reader_Bytes = some i_coder_Reader_Bytes := by kernel_rfl
theorem ok_coder_Reader_Number : trFn Try.prog Try.f91 i_coder_Reader_Number = some i_coder_Reader_Number := by kernel_rfl
theorem ok_coder_Reader_End : trFn Try.prog Try.f72 i_coder_Reader_End = some i_coder_Reader_End := by kernel_rfl
theorem ok_law10_small : trFn Try.prog Try.f42 i_law10_small = some i_law10_small := by kernel_rfl
theorem ok_ref04_Light : trFn Try.prog Try.f24 i_ref04_Light = some i_ref04_Light := by kernel_rfl
theorem ok_code_Read_v1 : trFn Try.prog Try.f45 i_code_Read_v1 = some i_code_Read_v1 := by kernel_rfl
theorem ok_coder_NewReader_v1 : trFn Try.prog Try.f68 i_coder_NewReader_v1 = some i_coder_NewReader_v1 := by kernel_rfl
theorem ok_slices_Clone_sl_byte_byte_v1 : trFn Try.prog Try.f50 i_slices_Clone_sl_byte_byte_v1 = some i_slices_Clone_sl_byte_byte_v1 := by kernel_rfl
theorem ok_ref04_Copy : trFn Try.prog Try.f30 i_ref04_Copy = some i_ref04_Copy := by kernel_rfl
theorem ok_ref04_Same : trFn Try.prog Try.f31 i_ref04_Same = some i_ref04_Same := by kernel_rfl
theorem ok_law00_Code : trFn Try.prog Try.f38 i_law00_Code = some i_law00_Code := by kernel_rfl
theorem tabOk : TabOk Try.prog tab := fun f fn h => by
  unfold tab at h
  split at h
  · cases h; exact ⟨Try.f15, i_law10_CodeStays, Try.func15, ok_law10_CodeStays⟩
  · cases h; exact ⟨Try.f41, i_law10_up, Try.func41, ok_law10_up⟩
  · cases h; exact ⟨Try.f43, i_code_Write, Try.func43, ok_code_Write⟩
  · cases h; exact ⟨Try.f63, i_tree_Check, Try.func63, ok_tree_Check⟩
  · cases h; exact ⟨Try.f86, i_tree_deep, Try.func86, ok_tree_deep⟩
  · cases h; exact ⟨Try.f99, i_tree_deep_1, Try.func99, ok_tree_deep_1⟩
  · cases h; exact ⟨Try.f94, i_slices_ContainsFunc_sl_api_Tree_api_Tree, Try.func94, ok_slices_ContainsFunc_sl_api_Tree_api_Tree⟩
  · cases h; exact ⟨Try.f104, i_slices_IndexFunc_sl_api_Tree_api_Tree, Try.func104, ok_slices_IndexFunc_sl_api_Tree_api_Tree⟩
  · cases h; exact ⟨Try.f87, i_tree_formed, Try.func87, ok_tree_formed⟩
  · cases h; exact ⟨Try.f100, i_tree_formed_1, Try.func100, ok_tree_formed_1⟩
  · cases h; exact ⟨Try.f64, i_code_long, Try.func64, ok_code_long⟩
  · cases h; exact ⟨Try.f65, i_code_write, Try.func65, ok_code_write⟩
  · cases h; exact ⟨Try.f88, i_coder_Bytes, Try.func88, ok_coder_Bytes⟩
  · cases h; exact ⟨Try.f101, i_coder_Number, Try.func101, ok_coder_Number⟩
  · cases h; exact ⟨Try.f45, i_code_Read, Try.func45, ok_code_Read⟩
  · cases h; exact ⟨Try.f68, i_coder_NewReader, Try.func68, ok_coder_NewReader⟩
  · cases h; exact ⟨Try.f50, i_slices_Clone_sl_byte_byte, Try.func50, ok_slices_Clone_sl_byte_byte⟩
  · cases h; exact ⟨Try.f69, i_code_Read_1, Try.func69, ok_code_Read_1⟩
  · cases h; exact ⟨Try.f70, i_coder_Reader_Byte, Try.func70, ok_coder_Reader_Byte⟩
  · cases h; exact ⟨Try.f90, i_coder_Reader_take, Try.func90, ok_coder_Reader_take⟩
  · cases h; exact ⟨Try.f71, i_coder_Reader_Bytes, Try.func71, ok_coder_Reader_Bytes⟩
  · cases h; exact ⟨Try.f91, i_coder_Reader_Number, Try.func91, ok_coder_Reader_Number⟩
  · cases h; exact ⟨Try.f72, i_coder_Reader_End, Try.func72, ok_coder_Reader_End⟩
  · cases h; exact ⟨Try.f42, i_law10_small, Try.func42, ok_law10_small⟩
  · cases h; exact ⟨Try.f24, i_ref04_Light, Try.func24, ok_ref04_Light⟩
  · cases h; exact ⟨Try.f45, i_code_Read_v1, Try.func45, ok_code_Read_v1⟩
  · cases h; exact ⟨Try.f68, i_coder_NewReader_v1, Try.func68, ok_coder_NewReader_v1⟩
  · cases h; exact ⟨Try.f50, i_slices_Clone_sl_byte_byte_v1, Try.func50, ok_slices_Clone_sl_byte_byte_v1⟩
  · cases h; exact ⟨Try.f30, i_ref04_Copy, Try.func30, ok_ref04_Copy⟩
  · cases h; exact ⟨Try.f31, i_ref04_Same, Try.func31, ok_ref04_Same⟩
  · cases h; exact ⟨Try.f38, i_law00_Code, Try.func38, ok_law00_Code⟩
  · cases h
end Go.Proofs.Ytebiajdkgpcidaa
