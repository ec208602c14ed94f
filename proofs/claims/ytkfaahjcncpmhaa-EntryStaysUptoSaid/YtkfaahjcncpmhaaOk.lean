/- The IR is the program's. -/
import Derived.Test.YtkfaahjcncpmhaaIr
import Derived.Test.YtkfaahjcncpmhaaChecked
set_option linter.unusedVariables false
namespace Go.Proofs.Ytkfaahjcncpmhaa
open Go.Ev

theorem ok_law14_EntryStays : trFn Try.prog Try.f11 i_law14_EntryStays = some i_law14_EntryStays := by kernel_rfl
theorem ok_law14_up : trFn Try.prog Try.f29 i_law14_up = some i_law14_up := by kernel_rfl
theorem ok_entry_WriteLog : trFn Try.prog Try.f31 i_entry_WriteLog = some i_entry_WriteLog := by kernel_rfl
theorem ok_entry_writer_counts : trFn Try.prog Try.f56 i_entry_writer_counts = some i_entry_writer_counts := by kernel_rfl
theorem ok_coder_Number : trFn Try.prog Try.f93 i_coder_Number = some i_coder_Number := by kernel_rfl
theorem ok_entry_writer_members : trFn Try.prog Try.f57 i_entry_writer_members = some i_entry_writer_members := by kernel_rfl
theorem ok_entry_writer_entries : trFn Try.prog Try.f58 i_entry_writer_entries = some i_entry_writer_entries := by kernel_rfl
theorem ok_entry_writer_bytes : trFn Try.prog Try.f81 i_entry_writer_bytes = some i_entry_writer_bytes := by kernel_rfl
theorem ok_coder_Bytes : trFn Try.prog Try.f107 i_coder_Bytes = some i_coder_Bytes := by kernel_rfl
theorem ok_entry_writer_end : trFn Try.prog Try.f59 i_entry_writer_end = some i_entry_writer_end := by kernel_rfl
theorem ok_entry_Read : trFn Try.prog Try.f35 i_entry_Read = some i_entry_Read := by kernel_rfl
theorem ok_coder_NewReader : trFn Try.prog Try.f64 i_coder_NewReader = some i_coder_NewReader := by kernel_rfl
theorem ok_slices_Clone_sl_byte_byte : trFn Try.prog Try.f95 i_slices_Clone_sl_byte_byte = some i_slices_Clone_sl_byte_byte := by kernel_rfl
theorem ok_entry_reader_count : trFn Try.prog Try.f65 i_entry_reader_count = some i_entry_reader_count := by kernel_rfl
theorem ok_coder_Reader_Number : trFn Try.prog Try.f96 i_coder_Reader_Number = some i_coder_Reader_Number := by kernel_rfl
theorem ok_coder_Reader_Byte : trFn Try.prog Try.f69 i_coder_Reader_Byte = some i_coder_Reader_Byte := by kernel_rfl
theorem ok_coder_Reader_take : trFn Try.prog Try.f99 i_coder_Reader_take = some i_coder_Reader_take := by kernel_rfl
theorem ok_entry_reader_entries : trFn Try.prog Try.f67 i_entry_reader_entries = some i_entry_reader_entries := by kernel_rfl
theorem ok_entry_reader_fine : trFn Try.prog Try.f97 i_entry_reader_fine = some i_entry_reader_fine := by kernel_rfl
theorem ok_coder_Reader_End : trFn Try.prog Try.f98 i_coder_Reader_End = some i_coder_Reader_End := by kernel_rfl
theorem ok_coder_Reader_Bytes : trFn Try.prog Try.f70 i_coder_Reader_Bytes = some i_coder_Reader_Bytes := by kernel_rfl
theorem ok_entry_reader_members : trFn Try.prog Try.f66 i_entry_reader_members = some i_entry_reader_members := by kernel_rfl
theorem ok_code_Read : trFn Try.prog Try.f71 i_code_Read = some i_code_Read := by kernel_rfl
theorem ok_code_Read_1 : trFn Try.prog Try.f100 i_code_Read_1 = some i_code_Read_1 := by kernel_rfl
theorem ok_entry_reader_end : trFn Try.prog Try.f68 i_entry_reader_end = some i_entry_reader_end := by kernel_rfl
theorem ok_law14_few : trFn Try.prog Try.f30 i_law14_few = some i_law14_few := by kernel_rfl
theorem ok_ref04_Light : trFn Try.prog Try.f39 i_ref04_Light = some i_ref04_Light := by kernel_rfl
theorem ok_entry_Read_v1 : trFn Try.prog Try.f35 i_entry_Read_v1 = some i_entry_Read_v1 := by kernel_rfl
theorem ok_coder_NewReader_v1 : trFn Try.prog Try.f64 i_coder_NewReader_v1 = some i_coder_NewReader_v1 := by kernel_rfl
theorem ok_slices_Clone_sl_byte_byte_v1 : trFn Try.prog Try.f95 i_slices_Clone_sl_byte_byte_v1 = some i_slices_Clone_sl_byte_byte_v1 := by kernel_rfl
theorem ok_ref14_Write : trFn Try.prog Try.f38 i_ref14_Write = some i_ref14_Write := by kernel_rfl
theorem ok_ref14_Writer_count : trFn Try.prog Try.f60 i_ref14_Writer_count = some i_ref14_Writer_count := by kernel_rfl
theorem ok_ref02_Number : trFn Try.prog Try.f94 i_ref02_Number = some i_ref02_Number := by kernel_rfl
theorem ok_ref14_Writer_entries : trFn Try.prog Try.f62 i_ref14_Writer_entries = some i_ref14_Writer_entries := by kernel_rfl
theorem ok_ref14_Writer_bytes : trFn Try.prog Try.f79 i_ref14_Writer_bytes = some i_ref14_Writer_bytes := by kernel_rfl
theorem ok_ref02_Bytes : trFn Try.prog Try.f103 i_ref02_Bytes = some i_ref02_Bytes := by kernel_rfl
theorem ok_ref14_Writer_members : trFn Try.prog Try.f61 i_ref14_Writer_members = some i_ref14_Writer_members := by kernel_rfl
theorem ok_ref10_Write : trFn Try.prog Try.f80 i_ref10_Write = some i_ref10_Write := by kernel_rfl
theorem ok_ref04_Check : trFn Try.prog Try.f104 i_ref04_Check = some i_ref04_Check := by kernel_rfl
theorem ok_ref04_Deep : trFn Try.prog Try.f111 i_ref04_Deep = some i_ref04_Deep := by kernel_rfl
theorem ok_ref04_Formed : trFn Try.prog Try.f112 i_ref04_Formed = some i_ref04_Formed := by kernel_rfl
theorem ok_ref10_long : trFn Try.prog Try.f105 i_ref10_long = some i_ref10_long := by kernel_rfl
theorem ok_ref10_bytes : trFn Try.prog Try.f106 i_ref10_bytes = some i_ref10_bytes := by kernel_rfl
theorem ok_ref14_Writer_end : trFn Try.prog Try.f63 i_ref14_Writer_end = some i_ref14_Writer_end := by kernel_rfl
theorem ok_entry_Write : trFn Try.prog Try.f40 i_entry_Write = some i_entry_Write := by kernel_rfl
theorem ok_code_Write : trFn Try.prog Try.f82 i_code_Write = some i_code_Write := by kernel_rfl
theorem ok_tree_Check : trFn Try.prog Try.f108 i_tree_Check = some i_tree_Check := by kernel_rfl
theorem ok_tree_deep : trFn Try.prog Try.f113 i_tree_deep = some i_tree_deep := by kernel_rfl
theorem ok_tree_deep_1 : trFn Try.prog Try.f116 i_tree_deep_1 = some i_tree_deep_1 := by kernel_rfl
theorem ok_slices_ContainsFunc_sl_api_Tree_api_Tree : trFn Try.prog Try.f115 i_slices_ContainsFunc_sl_api_Tree_api_Tree = some i_slices_ContainsFunc_sl_api_Tree_api_Tree := by kernel_rfl
theorem ok_slices_IndexFunc_sl_api_Tree_api_Tree : trFn Try.prog Try.f118 i_slices_IndexFunc_sl_api_Tree_api_Tree = some i_slices_IndexFunc_sl_api_Tree_api_Tree := by kernel_rfl
theorem ok_tree_formed : trFn Try.prog Try.f114 i_tree_formed = some i_tree_formed := by kernel_rfl
theorem ok_tree_formed_1 : trFn Try.prog Try.f117 i_tree_formed_1 = some i_tree_formed_1 := by kernel_rfl
theorem ok_code_long : trFn Try.prog Try.f109 i_code_long = some i_code_long := by kernel_rfl
theorem ok_code_write : trFn Try.prog Try.f110 i_code_write = some i_code_write := by kernel_rfl
theorem ok_law00_Code : trFn Try.prog Try.f33 i_law00_Code = some i_law00_Code := by kernel_rfl
theorem tabOk : TabOk Try.prog tab := fun f fn h => by
  unfold tab at h
  split at h
  · cases h; exact ⟨Try.f11, i_law14_EntryStays, Try.func11, ok_law14_EntryStays⟩
  · cases h; exact ⟨Try.f29, i_law14_up, Try.func29, ok_law14_up⟩
  · cases h; exact ⟨Try.f31, i_entry_WriteLog, Try.func31, ok_entry_WriteLog⟩
  · cases h; exact ⟨Try.f56, i_entry_writer_counts, Try.func56, ok_entry_writer_counts⟩
  · cases h; exact ⟨Try.f93, i_coder_Number, Try.func93, ok_coder_Number⟩
  · cases h; exact ⟨Try.f57, i_entry_writer_members, Try.func57, ok_entry_writer_members⟩
  · cases h; exact ⟨Try.f58, i_entry_writer_entries, Try.func58, ok_entry_writer_entries⟩
  · cases h; exact ⟨Try.f81, i_entry_writer_bytes, Try.func81, ok_entry_writer_bytes⟩
  · cases h; exact ⟨Try.f107, i_coder_Bytes, Try.func107, ok_coder_Bytes⟩
  · cases h; exact ⟨Try.f59, i_entry_writer_end, Try.func59, ok_entry_writer_end⟩
  · cases h; exact ⟨Try.f35, i_entry_Read, Try.func35, ok_entry_Read⟩
  · cases h; exact ⟨Try.f64, i_coder_NewReader, Try.func64, ok_coder_NewReader⟩
  · cases h; exact ⟨Try.f95, i_slices_Clone_sl_byte_byte, Try.func95, ok_slices_Clone_sl_byte_byte⟩
  · cases h; exact ⟨Try.f65, i_entry_reader_count, Try.func65, ok_entry_reader_count⟩
  · cases h; exact ⟨Try.f96, i_coder_Reader_Number, Try.func96, ok_coder_Reader_Number⟩
  · cases h; exact ⟨Try.f69, i_coder_Reader_Byte, Try.func69, ok_coder_Reader_Byte⟩
  · cases h; exact ⟨Try.f99, i_coder_Reader_take, Try.func99, ok_coder_Reader_take⟩
  · cases h; exact ⟨Try.f67, i_entry_reader_entries, Try.func67, ok_entry_reader_entries⟩
  · cases h; exact ⟨Try.f97, i_entry_reader_fine, Try.func97, ok_entry_reader_fine⟩
  · cases h; exact ⟨Try.f98, i_coder_Reader_End, Try.func98, ok_coder_Reader_End⟩
  · cases h; exact ⟨Try.f70, i_coder_Reader_Bytes, Try.func70, ok_coder_Reader_Bytes⟩
  · cases h; exact ⟨Try.f66, i_entry_reader_members, Try.func66, ok_entry_reader_members⟩
  · cases h; exact ⟨Try.f71, i_code_Read, Try.func71, ok_code_Read⟩
  · cases h; exact ⟨Try.f100, i_code_Read_1, Try.func100, ok_code_Read_1⟩
  · cases h; exact ⟨Try.f68, i_entry_reader_end, Try.func68, ok_entry_reader_end⟩
  · cases h; exact ⟨Try.f30, i_law14_few, Try.func30, ok_law14_few⟩
  · cases h; exact ⟨Try.f39, i_ref04_Light, Try.func39, ok_ref04_Light⟩
  · cases h; exact ⟨Try.f35, i_entry_Read_v1, Try.func35, ok_entry_Read_v1⟩
  · cases h; exact ⟨Try.f64, i_coder_NewReader_v1, Try.func64, ok_coder_NewReader_v1⟩
  · cases h; exact ⟨Try.f95, i_slices_Clone_sl_byte_byte_v1, Try.func95, ok_slices_Clone_sl_byte_byte_v1⟩
  · cases h; exact ⟨Try.f38, i_ref14_Write, Try.func38, ok_ref14_Write⟩
  · cases h; exact ⟨Try.f60, i_ref14_Writer_count, Try.func60, ok_ref14_Writer_count⟩
  · cases h; exact ⟨Try.f94, i_ref02_Number, Try.func94, ok_ref02_Number⟩
  · cases h; exact ⟨Try.f62, i_ref14_Writer_entries, Try.func62, ok_ref14_Writer_entries⟩
  · cases h; exact ⟨Try.f79, i_ref14_Writer_bytes, Try.func79, ok_ref14_Writer_bytes⟩
  · cases h; exact ⟨Try.f103, i_ref02_Bytes, Try.func103, ok_ref02_Bytes⟩
  · cases h; exact ⟨Try.f61, i_ref14_Writer_members, Try.func61, ok_ref14_Writer_members⟩
  · cases h; exact ⟨Try.f80, i_ref10_Write, Try.func80, ok_ref10_Write⟩
  · cases h; exact ⟨Try.f104, i_ref04_Check, Try.func104, ok_ref04_Check⟩
  · cases h; exact ⟨Try.f111, i_ref04_Deep, Try.func111, ok_ref04_Deep⟩
  · cases h; exact ⟨Try.f112, i_ref04_Formed, Try.func112, ok_ref04_Formed⟩
  · cases h; exact ⟨Try.f105, i_ref10_long, Try.func105, ok_ref10_long⟩
  · cases h; exact ⟨Try.f106, i_ref10_bytes, Try.func106, ok_ref10_bytes⟩
  · cases h; exact ⟨Try.f63, i_ref14_Writer_end, Try.func63, ok_ref14_Writer_end⟩
  · cases h; exact ⟨Try.f40, i_entry_Write, Try.func40, ok_entry_Write⟩
  · cases h; exact ⟨Try.f82, i_code_Write, Try.func82, ok_code_Write⟩
  · cases h; exact ⟨Try.f108, i_tree_Check, Try.func108, ok_tree_Check⟩
  · cases h; exact ⟨Try.f113, i_tree_deep, Try.func113, ok_tree_deep⟩
  · cases h; exact ⟨Try.f116, i_tree_deep_1, Try.func116, ok_tree_deep_1⟩
  · cases h; exact ⟨Try.f115, i_slices_ContainsFunc_sl_api_Tree_api_Tree, Try.func115, ok_slices_ContainsFunc_sl_api_Tree_api_Tree⟩
  · cases h; exact ⟨Try.f118, i_slices_IndexFunc_sl_api_Tree_api_Tree, Try.func118, ok_slices_IndexFunc_sl_api_Tree_api_Tree⟩
  · cases h; exact ⟨Try.f114, i_tree_formed, Try.func114, ok_tree_formed⟩
  · cases h; exact ⟨Try.f117, i_tree_formed_1, Try.func117, ok_tree_formed_1⟩
  · cases h; exact ⟨Try.f109, i_code_long, Try.func109, ok_code_long⟩
  · cases h; exact ⟨Try.f110, i_code_write, Try.func110, ok_code_write⟩
  · cases h; exact ⟨Try.f33, i_law00_Code, Try.func33, ok_law00_Code⟩
  · cases h
end Go.Proofs.Ytkfaahjcncpmhaa
