/- The IR is the program's. -/
import Derived.Test.YtdgfbfkjdflabaaIr
import Derived.Test.YtdgfbfkjdflabaaChecked
set_option linter.unusedVariables false
namespace Go.Proofs.Ytdgfbfkjdflabaa
open Go.Ev
theorem ok_law21_NetFull : trFn Try.prog Try.f3 i_law21_NetFull = some i_law21_NetFull := by kernel_rfl
theorem ok_law21_up : trFn Try.prog Try.f5 i_law21_up = some i_law21_up := by kernel_rfl
theorem ok_net_New : trFn Try.prog Try.f7 i_net_New = some i_net_New := by kernel_rfl
theorem ok_net_Net_Take : trFn Try.prog Try.f11 i_net_Net_Take = some i_net_Net_Take := by kernel_rfl
theorem ok_net_Net_at : trFn Try.prog Try.f19 i_net_Net_at = some i_net_Net_at := by kernel_rfl
theorem ok_net_line : trFn Try.prog Try.f24 i_net_line = some i_net_line := by kernel_rfl
theorem ok_entry_Read : trFn Try.prog Try.f21 i_entry_Read = some i_entry_Read := by kernel_rfl
theorem ok_coder_NewReader : trFn Try.prog Try.f36 i_coder_NewReader = some i_coder_NewReader := by kernel_rfl
theorem ok_slices_Clone_sl_byte_byte : trFn Try.prog Try.f55 i_slices_Clone_sl_byte_byte = some i_slices_Clone_sl_byte_byte := by kernel_rfl
theorem ok_entry_reader_count : trFn Try.prog Try.f37 i_entry_reader_count = some i_entry_reader_count := by kernel_rfl
theorem ok_coder_Reader_Number : trFn Try.prog Try.f56 i_coder_Reader_Number = some i_coder_Reader_Number := by kernel_rfl
theorem ok_coder_Reader_Byte : trFn Try.prog Try.f38 i_coder_Reader_Byte = some i_coder_Reader_Byte := by kernel_rfl
theorem ok_coder_Reader_take : trFn Try.prog Try.f57 i_coder_Reader_take = some i_coder_Reader_take := by kernel_rfl
theorem ok_entry_reader_entries : trFn Try.prog Try.f39 i_entry_reader_entries = some i_entry_reader_entries := by kernel_rfl
theorem ok_entry_reader_fine : trFn Try.prog Try.f58 i_entry_reader_fine = some i_entry_reader_fine := by kernel_rfl
theorem ok_coder_Reader_End : trFn Try.prog Try.f60 i_coder_Reader_End = some i_coder_Reader_End := by kernel_rfl
theorem ok_coder_Reader_Bytes : trFn Try.prog Try.f41 i_coder_Reader_Bytes = some i_coder_Reader_Bytes := by kernel_rfl
theorem ok_entry_reader_members : trFn Try.prog Try.f40 i_entry_reader_members = some i_entry_reader_members := by kernel_rfl
theorem ok_code_Read : trFn Try.prog Try.f42 i_code_Read = some i_code_Read := by kernel_rfl
theorem ok_code_Read_1 : trFn Try.prog Try.f59 i_code_Read_1 = some i_code_Read_1 := by kernel_rfl
theorem ok_entry_reader_end : trFn Try.prog Try.f43 i_entry_reader_end = some i_entry_reader_end := by kernel_rfl
theorem ok_slices_Clone_sl_sl_byte_sl_byte : trFn Try.prog Try.f20 i_slices_Clone_sl_sl_byte_sl_byte = some i_slices_Clone_sl_sl_byte_sl_byte := by kernel_rfl
theorem ok_law21_pick : trFn Try.prog Try.f6 i_law21_pick = some i_law21_pick := by kernel_rfl
theorem ok_net_Net_Double : trFn Try.prog Try.f9 i_net_Net_Double = some i_net_Net_Double := by kernel_rfl
theorem ok_net_Net_Len : trFn Try.prog Try.f10 i_net_Net_Len = some i_net_Net_Len := by kernel_rfl
theorem ok_law21_NetPlays : trFn Try.prog Try.f4 i_law21_NetPlays = some i_law21_NetPlays := by kernel_rfl
theorem ok_law21_small : trFn Try.prog Try.f12 i_law21_small = some i_law21_small := by kernel_rfl
theorem ok_ref04_Light : trFn Try.prog Try.f23 i_ref04_Light = some i_ref04_Light := by kernel_rfl
theorem ok_net_Net_Line : trFn Try.prog Try.f14 i_net_Net_Line = some i_net_Net_Line := by kernel_rfl
theorem ok_law21_play : trFn Try.prog Try.f15 i_law21_play = some i_law21_play := by kernel_rfl
theorem ok_law21_at : trFn Try.prog Try.f25 i_law21_at = some i_law21_at := by kernel_rfl
theorem ok_law21_model_asked : trFn Try.prog Try.f26 i_law21_model_asked = some i_law21_model_asked := by kernel_rfl
theorem ok_law21_model_send : trFn Try.prog Try.f27 i_law21_model_send = some i_law21_model_send := by kernel_rfl
theorem ok_ref14_Write : trFn Try.prog Try.f29 i_ref14_Write = some i_ref14_Write := by kernel_rfl
theorem ok_ref14_Writer_count : trFn Try.prog Try.f44 i_ref14_Writer_count = some i_ref14_Writer_count := by kernel_rfl
theorem ok_ref02_Number : trFn Try.prog Try.f61 i_ref02_Number = some i_ref02_Number := by kernel_rfl
theorem ok_ref14_Writer_entries : trFn Try.prog Try.f45 i_ref14_Writer_entries = some i_ref14_Writer_entries := by kernel_rfl
theorem ok_ref14_Writer_bytes : trFn Try.prog Try.f47 i_ref14_Writer_bytes = some i_ref14_Writer_bytes := by kernel_rfl
theorem ok_ref02_Bytes : trFn Try.prog Try.f62 i_ref02_Bytes = some i_ref02_Bytes := by kernel_rfl
theorem ok_ref14_Writer_members : trFn Try.prog Try.f46 i_ref14_Writer_members = some i_ref14_Writer_members := by kernel_rfl
theorem ok_ref10_Write : trFn Try.prog Try.f48 i_ref10_Write = some i_ref10_Write := by kernel_rfl
theorem ok_ref04_Check : trFn Try.prog Try.f63 i_ref04_Check = some i_ref04_Check := by kernel_rfl
theorem ok_ref04_Deep : trFn Try.prog Try.f68 i_ref04_Deep = some i_ref04_Deep := by kernel_rfl
theorem ok_ref04_Formed : trFn Try.prog Try.f69 i_ref04_Formed = some i_ref04_Formed := by kernel_rfl
theorem ok_ref10_long : trFn Try.prog Try.f64 i_ref10_long = some i_ref10_long := by kernel_rfl
theorem ok_ref10_bytes : trFn Try.prog Try.f65 i_ref10_bytes = some i_ref10_bytes := by kernel_rfl
theorem ok_ref14_Writer_end : trFn Try.prog Try.f49 i_ref14_Writer_end = some i_ref14_Writer_end := by kernel_rfl
theorem ok_law00_Code : trFn Try.prog Try.f28 i_law00_Code = some i_law00_Code := by kernel_rfl
theorem ok_law21_alike : trFn Try.prog Try.f16 i_law21_alike = some i_law21_alike := by kernel_rfl
theorem ok_net_Net_Cut : trFn Try.prog Try.f18 i_net_Net_Cut = some i_net_Net_Cut := by kernel_rfl
theorem ok_entry_Write : trFn Try.prog Try.f17 i_entry_Write = some i_entry_Write := by kernel_rfl
theorem ok_entry_writer_counts : trFn Try.prog Try.f30 i_entry_writer_counts = some i_entry_writer_counts := by kernel_rfl
theorem ok_coder_Number : trFn Try.prog Try.f50 i_coder_Number = some i_coder_Number := by kernel_rfl
theorem ok_entry_writer_entries : trFn Try.prog Try.f31 i_entry_writer_entries = some i_entry_writer_entries := by kernel_rfl
theorem ok_entry_writer_bytes : trFn Try.prog Try.f33 i_entry_writer_bytes = some i_entry_writer_bytes := by kernel_rfl
theorem ok_coder_Bytes : trFn Try.prog Try.f51 i_coder_Bytes = some i_coder_Bytes := by kernel_rfl
theorem ok_entry_writer_members : trFn Try.prog Try.f32 i_entry_writer_members = some i_entry_writer_members := by kernel_rfl
theorem ok_code_Write : trFn Try.prog Try.f34 i_code_Write = some i_code_Write := by kernel_rfl
theorem ok_tree_Check : trFn Try.prog Try.f52 i_tree_Check = some i_tree_Check := by kernel_rfl
theorem ok_tree_deep : trFn Try.prog Try.f66 i_tree_deep = some i_tree_deep := by kernel_rfl
theorem ok_tree_deep_1 : trFn Try.prog Try.f71 i_tree_deep_1 = some i_tree_deep_1 := by kernel_rfl
theorem ok_slices_ContainsFunc_sl_api_Tree_api_Tree : trFn Try.prog Try.f70 i_slices_ContainsFunc_sl_api_Tree_api_Tree = some i_slices_ContainsFunc_sl_api_Tree_api_Tree := by kernel_rfl
theorem ok_slices_IndexFunc_sl_api_Tree_api_Tree : trFn Try.prog Try.f73 i_slices_IndexFunc_sl_api_Tree_api_Tree = some i_slices_IndexFunc_sl_api_Tree_api_Tree := by kernel_rfl
theorem ok_tree_formed : trFn Try.prog Try.f67 i_tree_formed = some i_tree_formed := by kernel_rfl
theorem ok_tree_formed_1 : trFn Try.prog Try.f72 i_tree_formed_1 = some i_tree_formed_1 := by kernel_rfl
theorem ok_code_long : trFn Try.prog Try.f53 i_code_long = some i_code_long := by kernel_rfl
theorem ok_code_write : trFn Try.prog Try.f54 i_code_write = some i_code_write := by kernel_rfl
theorem ok_entry_writer_end : trFn Try.prog Try.f35 i_entry_writer_end = some i_entry_writer_end := by kernel_rfl
theorem tabOk : TabOk Try.prog tab := fun f fn h => by
 unfold tab at h
 split at h
 ·cases h; exact ⟨by decide, Try.f3, i_law21_NetFull, Try.func3, ok_law21_NetFull⟩
 ·cases h; exact ⟨by decide, Try.f5, i_law21_up, Try.func5, ok_law21_up⟩
 ·cases h; exact ⟨by decide, Try.f7, i_net_New, Try.func7, ok_net_New⟩
 ·cases h; exact ⟨by decide, Try.f11, i_net_Net_Take, Try.func11, ok_net_Net_Take⟩
 ·cases h; exact ⟨by decide, Try.f19, i_net_Net_at, Try.func19, ok_net_Net_at⟩
 ·cases h; exact ⟨by decide, Try.f24, i_net_line, Try.func24, ok_net_line⟩
 ·cases h; exact ⟨by decide, Try.f21, i_entry_Read, Try.func21, ok_entry_Read⟩
 ·cases h; exact ⟨by decide, Try.f36, i_coder_NewReader, Try.func36, ok_coder_NewReader⟩
 ·cases h; exact ⟨by decide, Try.f55, i_slices_Clone_sl_byte_byte, Try.func55, ok_slices_Clone_sl_byte_byte⟩
 ·cases h; exact ⟨by decide, Try.f37, i_entry_reader_count, Try.func37, ok_entry_reader_count⟩
 ·cases h; exact ⟨by decide, Try.f56, i_coder_Reader_Number, Try.func56, ok_coder_Reader_Number⟩
 ·cases h; exact ⟨by decide, Try.f38, i_coder_Reader_Byte, Try.func38, ok_coder_Reader_Byte⟩
 ·cases h; exact ⟨by decide, Try.f57, i_coder_Reader_take, Try.func57, ok_coder_Reader_take⟩
 ·cases h; exact ⟨by decide, Try.f39, i_entry_reader_entries, Try.func39, ok_entry_reader_entries⟩
 ·cases h; exact ⟨by decide, Try.f58, i_entry_reader_fine, Try.func58, ok_entry_reader_fine⟩
 ·cases h; exact ⟨by decide, Try.f60, i_coder_Reader_End, Try.func60, ok_coder_Reader_End⟩
 ·cases h; exact ⟨by decide, Try.f41, i_coder_Reader_Bytes, Try.func41, ok_coder_Reader_Bytes⟩
 ·cases h; exact ⟨by decide, Try.f40, i_entry_reader_members, Try.func40, ok_entry_reader_members⟩
 ·cases h; exact ⟨by decide, Try.f42, i_code_Read, Try.func42, ok_code_Read⟩
 ·cases h; exact ⟨by decide, Try.f59, i_code_Read_1, Try.func59, ok_code_Read_1⟩
 ·cases h; exact ⟨by decide, Try.f43, i_entry_reader_end, Try.func43, ok_entry_reader_end⟩
 ·cases h; exact ⟨by decide, Try.f20, i_slices_Clone_sl_sl_byte_sl_byte, Try.func20, ok_slices_Clone_sl_sl_byte_sl_byte⟩
 ·cases h; exact ⟨by decide, Try.f6, i_law21_pick, Try.func6, ok_law21_pick⟩
 ·cases h; exact ⟨by decide, Try.f9, i_net_Net_Double, Try.func9, ok_net_Net_Double⟩
 ·cases h; exact ⟨by decide, Try.f10, i_net_Net_Len, Try.func10, ok_net_Net_Len⟩
 ·cases h; exact ⟨by decide, Try.f4, i_law21_NetPlays, Try.func4, ok_law21_NetPlays⟩
 ·cases h; exact ⟨by decide, Try.f12, i_law21_small, Try.func12, ok_law21_small⟩
 ·cases h; exact ⟨by decide, Try.f23, i_ref04_Light, Try.func23, ok_ref04_Light⟩
 ·cases h; exact ⟨by decide, Try.f14, i_net_Net_Line, Try.func14, ok_net_Net_Line⟩
 ·cases h; exact ⟨by decide, Try.f15, i_law21_play, Try.func15, ok_law21_play⟩
 ·cases h; exact ⟨by decide, Try.f25, i_law21_at, Try.func25, ok_law21_at⟩
 ·cases h; exact ⟨by decide, Try.f26, i_law21_model_asked, Try.func26, ok_law21_model_asked⟩
 ·cases h; exact ⟨by decide, Try.f27, i_law21_model_send, Try.func27, ok_law21_model_send⟩
 ·cases h; exact ⟨by decide, Try.f29, i_ref14_Write, Try.func29, ok_ref14_Write⟩
 ·cases h; exact ⟨by decide, Try.f44, i_ref14_Writer_count, Try.func44, ok_ref14_Writer_count⟩
 ·cases h; exact ⟨by decide, Try.f61, i_ref02_Number, Try.func61, ok_ref02_Number⟩
 ·cases h; exact ⟨by decide, Try.f45, i_ref14_Writer_entries, Try.func45, ok_ref14_Writer_entries⟩
 ·cases h; exact ⟨by decide, Try.f47, i_ref14_Writer_bytes, Try.func47, ok_ref14_Writer_bytes⟩
 ·cases h; exact ⟨by decide, Try.f62, i_ref02_Bytes, Try.func62, ok_ref02_Bytes⟩
 ·cases h; exact ⟨by decide, Try.f46, i_ref14_Writer_members, Try.func46, ok_ref14_Writer_members⟩
 ·cases h; exact ⟨by decide, Try.f48, i_ref10_Write, Try.func48, ok_ref10_Write⟩
 ·cases h; exact ⟨by decide, Try.f63, i_ref04_Check, Try.func63, ok_ref04_Check⟩
 ·cases h; exact ⟨by decide, Try.f68, i_ref04_Deep, Try.func68, ok_ref04_Deep⟩
 ·cases h; exact ⟨by decide, Try.f69, i_ref04_Formed, Try.func69, ok_ref04_Formed⟩
 ·cases h; exact ⟨by decide, Try.f64, i_ref10_long, Try.func64, ok_ref10_long⟩
 ·cases h; exact ⟨by decide, Try.f65, i_ref10_bytes, Try.func65, ok_ref10_bytes⟩
 ·cases h; exact ⟨by decide, Try.f49, i_ref14_Writer_end, Try.func49, ok_ref14_Writer_end⟩
 ·cases h; exact ⟨by decide, Try.f28, i_law00_Code, Try.func28, ok_law00_Code⟩
 ·cases h; exact ⟨by decide, Try.f16, i_law21_alike, Try.func16, ok_law21_alike⟩
 ·cases h; exact ⟨by decide, Try.f18, i_net_Net_Cut, Try.func18, ok_net_Net_Cut⟩
 ·cases h; exact ⟨by decide, Try.f17, i_entry_Write, Try.func17, ok_entry_Write⟩
 ·cases h; exact ⟨by decide, Try.f30, i_entry_writer_counts, Try.func30, ok_entry_writer_counts⟩
 ·cases h; exact ⟨by decide, Try.f50, i_coder_Number, Try.func50, ok_coder_Number⟩
 ·cases h; exact ⟨by decide, Try.f31, i_entry_writer_entries, Try.func31, ok_entry_writer_entries⟩
 ·cases h; exact ⟨by decide, Try.f33, i_entry_writer_bytes, Try.func33, ok_entry_writer_bytes⟩
 ·cases h; exact ⟨by decide, Try.f51, i_coder_Bytes, Try.func51, ok_coder_Bytes⟩
 ·cases h; exact ⟨by decide, Try.f32, i_entry_writer_members, Try.func32, ok_entry_writer_members⟩
 ·cases h; exact ⟨by decide, Try.f34, i_code_Write, Try.func34, ok_code_Write⟩
 ·cases h; exact ⟨by decide, Try.f52, i_tree_Check, Try.func52, ok_tree_Check⟩
 ·cases h; exact ⟨by decide, Try.f66, i_tree_deep, Try.func66, ok_tree_deep⟩
 ·cases h; exact ⟨by decide, Try.f71, i_tree_deep_1, Try.func71, ok_tree_deep_1⟩
 ·cases h; exact ⟨by decide, Try.f70, i_slices_ContainsFunc_sl_api_Tree_api_Tree, Try.func70, ok_slices_ContainsFunc_sl_api_Tree_api_Tree⟩
 ·cases h; exact ⟨by decide, Try.f73, i_slices_IndexFunc_sl_api_Tree_api_Tree, Try.func73, ok_slices_IndexFunc_sl_api_Tree_api_Tree⟩
 ·cases h; exact ⟨by decide, Try.f67, i_tree_formed, Try.func67, ok_tree_formed⟩
 ·cases h; exact ⟨by decide, Try.f72, i_tree_formed_1, Try.func72, ok_tree_formed_1⟩
 ·cases h; exact ⟨by decide, Try.f53, i_code_long, Try.func53, ok_code_long⟩
 ·cases h; exact ⟨by decide, Try.f54, i_code_write, Try.func54, ok_code_write⟩
 ·cases h; exact ⟨by decide, Try.f35, i_entry_writer_end, Try.func35, ok_entry_writer_end⟩
 ·cases h
end Go.Proofs.Ytdgfbfkjdflabaa
