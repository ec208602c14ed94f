/- The IR is the program's. -/
import Derived.Test.YtebiajdkgpcidaaIr
import Derived.Test.YtebiajdkgpcidaaChecked
set_option linter.unusedVariables false
namespace Go.Proofs.Ytebiajdkgpcidaa
open Go.Ev

theorem ok_law06_ScanRanges : trFn Try.prog Try.f6 i_law06_ScanRanges = some i_law06_ScanRanges := by kernel_rfl
theorem ok_law06_up : trFn Try.prog Try.f18 i_law06_up = some i_law06_up := by kernel_rfl
theorem ok_scan_In : trFn Try.prog Try.f20 i_scan_In = some i_scan_In := by kernel_rfl
theorem ok_bytes_Compare : trFn Try.prog Try.f52 i_bytes_Compare = some i_bytes_Compare := by kernel_rfl
theorem ok_ref04_Light : trFn Try.prog Try.f24 i_ref04_Light = some i_ref04_Light := by kernel_rfl
theorem ok_scan_Range : trFn Try.prog Try.f25 i_scan_Range = some i_scan_Range := by kernel_rfl
theorem ok_avl_Is : trFn Try.prog Try.f35 i_avl_Is = some i_avl_Is := by kernel_rfl
theorem ok_tree_Full : trFn Try.prog Try.f57 i_tree_Full = some i_tree_Full := by kernel_rfl
theorem ok_tree_Check : trFn Try.prog Try.f63 i_tree_Check = some i_tree_Check := by kernel_rfl
theorem ok_tree_deep : trFn Try.prog Try.f86 i_tree_deep = some i_tree_deep := by kernel_rfl
theorem ok_tree_deep_1 : trFn Try.prog Try.f99 i_tree_deep_1 = some i_tree_deep_1 := by kernel_rfl
theorem ok_slices_ContainsFunc_sl_api_Tree_api_Tree : trFn Try.prog Try.f94 i_slices_ContainsFunc_sl_api_Tree_api_Tree = some i_slices_ContainsFunc_sl_api_Tree_api_Tree := by kernel_rfl
theorem ok_slices_IndexFunc_sl_api_Tree_api_Tree : trFn Try.prog Try.f104 i_slices_IndexFunc_sl_api_Tree_api_Tree = some i_slices_IndexFunc_sl_api_Tree_api_Tree := by kernel_rfl
theorem ok_tree_formed : trFn Try.prog Try.f87 i_tree_formed = some i_tree_formed := by kernel_rfl
theorem ok_tree_formed_1 : trFn Try.prog Try.f100 i_tree_formed_1 = some i_tree_formed_1 := by kernel_rfl
theorem ok_tree_full : trFn Try.prog Try.f80 i_tree_full = some i_tree_full := by kernel_rfl
theorem ok_tree_full_1 : trFn Try.prog Try.f95 i_tree_full_1 = some i_tree_full_1 := by kernel_rfl
theorem ok_tree_List : trFn Try.prog Try.f53 i_tree_List = some i_tree_List := by kernel_rfl
theorem ok_tree_List_1 : trFn Try.prog Try.f77 i_tree_List_1 = some i_tree_List_1 := by kernel_rfl
theorem ok_avl_even : trFn Try.prog Try.f58 i_avl_even = some i_avl_even := by kernel_rfl
theorem ok_slices_Clone_sl_byte_byte : trFn Try.prog Try.f50 i_slices_Clone_sl_byte_byte = some i_slices_Clone_sl_byte_byte := by kernel_rfl
theorem ok_ref05_Is : trFn Try.prog Try.f26 i_ref05_Is = some i_ref05_Is := by kernel_rfl
theorem ok_ref04_Check : trFn Try.prog Try.f54 i_ref04_Check = some i_ref04_Check := by kernel_rfl
theorem ok_ref04_Deep : trFn Try.prog Try.f78 i_ref04_Deep = some i_ref04_Deep := by kernel_rfl
theorem ok_ref04_Formed : trFn Try.prog Try.f79 i_ref04_Formed = some i_ref04_Formed := by kernel_rfl
theorem ok_ref04_Full : trFn Try.prog Try.f55 i_ref04_Full = some i_ref04_Full := by kernel_rfl
theorem ok_ref04_List : trFn Try.prog Try.f49 i_ref04_List = some i_ref04_List := by kernel_rfl
theorem ok_ref04_Depth : trFn Try.prog Try.f56 i_ref04_Depth = some i_ref04_Depth := by kernel_rfl
theorem ok_ref06_Range : trFn Try.prog Try.f28 i_ref06_Range = some i_ref06_Range := by kernel_rfl
theorem ok_ref06_In : trFn Try.prog Try.f21 i_ref06_In = some i_ref06_In := by kernel_rfl
theorem ok_ref06_Same : trFn Try.prog Try.f27 i_ref06_Same = some i_ref06_Same := by kernel_rfl
theorem ok_law05_AvlIs : trFn Try.prog Try.f9 i_law05_AvlIs = some i_law05_AvlIs := by kernel_rfl
theorem ok_law05_up : trFn Try.prog Try.f33 i_law05_up = some i_law05_up := by kernel_rfl
theorem ok_avl_Put : trFn Try.prog Try.f39 i_avl_Put = some i_avl_Put := by kernel_rfl
theorem ok_avl_asked : trFn Try.prog Try.f59 i_avl_asked = some i_avl_asked := by kernel_rfl
theorem ok_avl_put : trFn Try.prog Try.f60 i_avl_put = some i_avl_put := by kernel_rfl
theorem ok_avl_node : trFn Try.prog Try.f81 i_avl_node = some i_avl_node := by kernel_rfl
theorem ok_avl_leveled : trFn Try.prog Try.f82 i_avl_leveled = some i_avl_leveled := by kernel_rfl
theorem ok_avl_depth : trFn Try.prog Try.f96 i_avl_depth = some i_avl_depth := by kernel_rfl
theorem ok_avl_left : trFn Try.prog Try.f97 i_avl_left = some i_avl_left := by kernel_rfl
theorem ok_avl_right : trFn Try.prog Try.f98 i_avl_right = some i_avl_right := by kernel_rfl
theorem ok_avl_Get : trFn Try.prog Try.f36 i_avl_Get = some i_avl_Get := by kernel_rfl
theorem ok_law05_small : trFn Try.prog Try.f34 i_law05_small = some i_law05_small := by kernel_rfl
theorem ok_law05_AvlGets : trFn Try.prog Try.f10 i_law05_AvlGets = some i_law05_AvlGets := by kernel_rfl
theorem ok_law05_asked : trFn Try.prog Try.f37 i_law05_asked = some i_law05_asked := by kernel_rfl
theorem ok_law00_Code : trFn Try.prog Try.f38 i_law00_Code = some i_law00_Code := by kernel_rfl
theorem ok_ref05_Get : trFn Try.prog Try.f32 i_ref05_Get = some i_ref05_Get := by kernel_rfl
theorem ok_law05_AvlPuts : trFn Try.prog Try.f11 i_law05_AvlPuts = some i_law05_AvlPuts := by kernel_rfl
theorem ok_ref04_Same : trFn Try.prog Try.f31 i_ref04_Same = some i_ref04_Same := by kernel_rfl
theorem ok_ref05_Put : trFn Try.prog Try.f40 i_ref05_Put = some i_ref05_Put := by kernel_rfl
theorem ok_ref05_Node : trFn Try.prog Try.f61 i_ref05_Node = some i_ref05_Node := by kernel_rfl
theorem ok_ref05_level : trFn Try.prog Try.f62 i_ref05_level = some i_ref05_level := by kernel_rfl
theorem ok_ref05_tilt : trFn Try.prog Try.f83 i_ref05_tilt = some i_ref05_tilt := by kernel_rfl
theorem ok_ref05_left : trFn Try.prog Try.f84 i_ref05_left = some i_ref05_left := by kernel_rfl
theorem ok_ref05_right : trFn Try.prog Try.f85 i_ref05_right = some i_ref05_right := by kernel_rfl
theorem ok_law10_CodeWrites : trFn Try.prog Try.f12 i_law10_CodeWrites = some i_law10_CodeWrites := by kernel_rfl
theorem ok_law10_up : trFn Try.prog Try.f41 i_law10_up = some i_law10_up := by kernel_rfl
theorem ok_code_Write : trFn Try.prog Try.f43 i_code_Write = some i_code_Write := by kernel_rfl
theorem ok_code_long : trFn Try.prog Try.f64 i_code_long = some i_code_long := by kernel_rfl
theorem ok_code_write : trFn Try.prog Try.f65 i_code_write = some i_code_write := by kernel_rfl
theorem ok_coder_Bytes : trFn Try.prog Try.f88 i_coder_Bytes = some i_coder_Bytes := by kernel_rfl
theorem ok_coder_Number : trFn Try.prog Try.f101 i_coder_Number = some i_coder_Number := by kernel_rfl
theorem ok_code_Read : trFn Try.prog Try.f45 i_code_Read = some i_code_Read := by kernel_rfl
theorem ok_coder_NewReader : trFn Try.prog Try.f68 i_coder_NewReader = some i_coder_NewReader := by kernel_rfl
theorem ok_code_Read_1 : trFn Try.prog Try.f69 i_code_Read_1 = some i_code_Read_1 := by kernel_rfl
theorem ok_coder_Reader_Byte : trFn Try.prog Try.f70 i_coder_Reader_Byte = some i_coder_Reader_Byte := by kernel_rfl
theorem ok_coder_Reader_take : trFn Try.prog Try.f90 i_coder_Reader_take = some i_coder_Reader_take := by kernel_rfl
theorem ok_coder_Reader_Bytes : trFn Try.prog Try.f71 i_coder_Reader_Bytes = some i_coder_Reader_Bytes := by kernel_rfl
theorem ok_coder_Reader_Number : trFn Try.prog Try.f91 i_coder_Reader_Number = some i_coder_Reader_Number := by kernel_rfl
theorem ok_coder_Reader_End : trFn Try.prog Try.f72 i_coder_Reader_End = some i_coder_Reader_End := by kernel_rfl
theorem ok_law10_small : trFn Try.prog Try.f42 i_law10_small = some i_law10_small := by kernel_rfl
theorem ok_ref10_Write : trFn Try.prog Try.f44 i_ref10_Write = some i_ref10_Write := by kernel_rfl
theorem ok_ref10_long : trFn Try.prog Try.f66 i_ref10_long = some i_ref10_long := by kernel_rfl
theorem ok_ref10_bytes : trFn Try.prog Try.f67 i_ref10_bytes = some i_ref10_bytes := by kernel_rfl
theorem ok_ref02_Bytes : trFn Try.prog Try.f89 i_ref02_Bytes = some i_ref02_Bytes := by kernel_rfl
theorem ok_ref02_Number : trFn Try.prog Try.f102 i_ref02_Number = some i_ref02_Number := by kernel_rfl
theorem ok_law10_CodeReads : trFn Try.prog Try.f13 i_law10_CodeReads = some i_law10_CodeReads := by kernel_rfl
theorem ok_ref10_Read : trFn Try.prog Try.f46 i_ref10_Read = some i_ref10_Read := by kernel_rfl
theorem ok_ref10_read : trFn Try.prog Try.f73 i_ref10_read = some i_ref10_read := by kernel_rfl
theorem ok_ref02_Reader_Byte : trFn Try.prog Try.f92 i_ref02_Reader_Byte = some i_ref02_Reader_Byte := by kernel_rfl
theorem ok_ref02_Reader_Bytes : trFn Try.prog Try.f93 i_ref02_Reader_Bytes = some i_ref02_Reader_Bytes := by kernel_rfl
theorem ok_ref02_Reader_Number : trFn Try.prog Try.f103 i_ref02_Reader_Number = some i_ref02_Reader_Number := by kernel_rfl
theorem ok_ref02_Reader_End : trFn Try.prog Try.f74 i_ref02_Reader_End = some i_ref02_Reader_End := by kernel_rfl
theorem ok_law10_CodeBack : trFn Try.prog Try.f14 i_law10_CodeBack = some i_law10_CodeBack := by kernel_rfl
theorem ok_law05_AvlDeletes : trFn Try.prog Try.f16 i_law05_AvlDeletes = some i_law05_AvlDeletes := by kernel_rfl
theorem ok_avl_Delete : trFn Try.prog Try.f47 i_avl_Delete = some i_avl_Delete := by kernel_rfl
theorem ok_avl_take : trFn Try.prog Try.f75 i_avl_take = some i_avl_take := by kernel_rfl
theorem ok_ref05_Delete : trFn Try.prog Try.f48 i_ref05_Delete = some i_ref05_Delete := by kernel_rfl
theorem ok_law05_AvlHolds : trFn Try.prog Try.f17 i_law05_AvlHolds = some i_law05_AvlHolds := by kernel_rfl
theorem tabOk : TabOk Try.prog tab := fun f fn h => by
  unfold tab at h
  split at h
  · cases h; exact ⟨Try.f6, i_law06_ScanRanges, Try.func6, ok_law06_ScanRanges⟩
  · cases h; exact ⟨Try.f18, i_law06_up, Try.func18, ok_law06_up⟩
  · cases h; exact ⟨Try.f20, i_scan_In, Try.func20, ok_scan_In⟩
  · cases h; exact ⟨Try.f52, i_bytes_Compare, Try.func52, ok_bytes_Compare⟩
  · cases h; exact ⟨Try.f24, i_ref04_Light, Try.func24, ok_ref04_Light⟩
  · cases h; exact ⟨Try.f25, i_scan_Range, Try.func25, ok_scan_Range⟩
  · cases h; exact ⟨Try.f35, i_avl_Is, Try.func35, ok_avl_Is⟩
  · cases h; exact ⟨Try.f57, i_tree_Full, Try.func57, ok_tree_Full⟩
  · cases h; exact ⟨Try.f63, i_tree_Check, Try.func63, ok_tree_Check⟩
  · cases h; exact ⟨Try.f86, i_tree_deep, Try.func86, ok_tree_deep⟩
  · cases h; exact ⟨Try.f99, i_tree_deep_1, Try.func99, ok_tree_deep_1⟩
  · cases h; exact ⟨Try.f94, i_slices_ContainsFunc_sl_api_Tree_api_Tree, Try.func94, ok_slices_ContainsFunc_sl_api_Tree_api_Tree⟩
  · cases h; exact ⟨Try.f104, i_slices_IndexFunc_sl_api_Tree_api_Tree, Try.func104, ok_slices_IndexFunc_sl_api_Tree_api_Tree⟩
  · cases h; exact ⟨Try.f87, i_tree_formed, Try.func87, ok_tree_formed⟩
  · cases h; exact ⟨Try.f100, i_tree_formed_1, Try.func100, ok_tree_formed_1⟩
  · cases h; exact ⟨Try.f80, i_tree_full, Try.func80, ok_tree_full⟩
  · cases h; exact ⟨Try.f95, i_tree_full_1, Try.func95, ok_tree_full_1⟩
  · cases h; exact ⟨Try.f53, i_tree_List, Try.func53, ok_tree_List⟩
  · cases h; exact ⟨Try.f77, i_tree_List_1, Try.func77, ok_tree_List_1⟩
  · cases h; exact ⟨Try.f58, i_avl_even, Try.func58, ok_avl_even⟩
  · cases h; exact ⟨Try.f50, i_slices_Clone_sl_byte_byte, Try.func50, ok_slices_Clone_sl_byte_byte⟩
  · cases h; exact ⟨Try.f26, i_ref05_Is, Try.func26, ok_ref05_Is⟩
  · cases h; exact ⟨Try.f54, i_ref04_Check, Try.func54, ok_ref04_Check⟩
  · cases h; exact ⟨Try.f78, i_ref04_Deep, Try.func78, ok_ref04_Deep⟩
  · cases h; exact ⟨Try.f79, i_ref04_Formed, Try.func79, ok_ref04_Formed⟩
  · cases h; exact ⟨Try.f55, i_ref04_Full, Try.func55, ok_ref04_Full⟩
  · cases h; exact ⟨Try.f49, i_ref04_List, Try.func49, ok_ref04_List⟩
  · cases h; exact ⟨Try.f56, i_ref04_Depth, Try.func56, ok_ref04_Depth⟩
  · cases h; exact ⟨Try.f28, i_ref06_Range, Try.func28, ok_ref06_Range⟩
  · cases h; exact ⟨Try.f21, i_ref06_In, Try.func21, ok_ref06_In⟩
  · cases h; exact ⟨Try.f27, i_ref06_Same, Try.func27, ok_ref06_Same⟩
  · cases h; exact ⟨Try.f9, i_law05_AvlIs, Try.func9, ok_law05_AvlIs⟩
  · cases h; exact ⟨Try.f33, i_law05_up, Try.func33, ok_law05_up⟩
  · cases h; exact ⟨Try.f39, i_avl_Put, Try.func39, ok_avl_Put⟩
  · cases h; exact ⟨Try.f59, i_avl_asked, Try.func59, ok_avl_asked⟩
  · cases h; exact ⟨Try.f60, i_avl_put, Try.func60, ok_avl_put⟩
  · cases h; exact ⟨Try.f81, i_avl_node, Try.func81, ok_avl_node⟩
  · cases h; exact ⟨Try.f82, i_avl_leveled, Try.func82, ok_avl_leveled⟩
  · cases h; exact ⟨Try.f96, i_avl_depth, Try.func96, ok_avl_depth⟩
  · cases h; exact ⟨Try.f97, i_avl_left, Try.func97, ok_avl_left⟩
  · cases h; exact ⟨Try.f98, i_avl_right, Try.func98, ok_avl_right⟩
  · cases h; exact ⟨Try.f36, i_avl_Get, Try.func36, ok_avl_Get⟩
  · cases h; exact ⟨Try.f34, i_law05_small, Try.func34, ok_law05_small⟩
  · cases h; exact ⟨Try.f10, i_law05_AvlGets, Try.func10, ok_law05_AvlGets⟩
  · cases h; exact ⟨Try.f37, i_law05_asked, Try.func37, ok_law05_asked⟩
  · cases h; exact ⟨Try.f38, i_law00_Code, Try.func38, ok_law00_Code⟩
  · cases h; exact ⟨Try.f32, i_ref05_Get, Try.func32, ok_ref05_Get⟩
  · cases h; exact ⟨Try.f11, i_law05_AvlPuts, Try.func11, ok_law05_AvlPuts⟩
  · cases h; exact ⟨Try.f31, i_ref04_Same, Try.func31, ok_ref04_Same⟩
  · cases h; exact ⟨Try.f40, i_ref05_Put, Try.func40, ok_ref05_Put⟩
  · cases h; exact ⟨Try.f61, i_ref05_Node, Try.func61, ok_ref05_Node⟩
  · cases h; exact ⟨Try.f62, i_ref05_level, Try.func62, ok_ref05_level⟩
  · cases h; exact ⟨Try.f83, i_ref05_tilt, Try.func83, ok_ref05_tilt⟩
  · cases h; exact ⟨Try.f84, i_ref05_left, Try.func84, ok_ref05_left⟩
  · cases h; exact ⟨Try.f85, i_ref05_right, Try.func85, ok_ref05_right⟩
  · cases h; exact ⟨Try.f12, i_law10_CodeWrites, Try.func12, ok_law10_CodeWrites⟩
  · cases h; exact ⟨Try.f41, i_law10_up, Try.func41, ok_law10_up⟩
  · cases h; exact ⟨Try.f43, i_code_Write, Try.func43, ok_code_Write⟩
  · cases h; exact ⟨Try.f64, i_code_long, Try.func64, ok_code_long⟩
  · cases h; exact ⟨Try.f65, i_code_write, Try.func65, ok_code_write⟩
  · cases h; exact ⟨Try.f88, i_coder_Bytes, Try.func88, ok_coder_Bytes⟩
  · cases h; exact ⟨Try.f101, i_coder_Number, Try.func101, ok_coder_Number⟩
  · cases h; exact ⟨Try.f45, i_code_Read, Try.func45, ok_code_Read⟩
  · cases h; exact ⟨Try.f68, i_coder_NewReader, Try.func68, ok_coder_NewReader⟩
  · cases h; exact ⟨Try.f69, i_code_Read_1, Try.func69, ok_code_Read_1⟩
  · cases h; exact ⟨Try.f70, i_coder_Reader_Byte, Try.func70, ok_coder_Reader_Byte⟩
  · cases h; exact ⟨Try.f90, i_coder_Reader_take, Try.func90, ok_coder_Reader_take⟩
  · cases h; exact ⟨Try.f71, i_coder_Reader_Bytes, Try.func71, ok_coder_Reader_Bytes⟩
  · cases h; exact ⟨Try.f91, i_coder_Reader_Number, Try.func91, ok_coder_Reader_Number⟩
  · cases h; exact ⟨Try.f72, i_coder_Reader_End, Try.func72, ok_coder_Reader_End⟩
  · cases h; exact ⟨Try.f42, i_law10_small, Try.func42, ok_law10_small⟩
  · cases h; exact ⟨Try.f44, i_ref10_Write, Try.func44, ok_ref10_Write⟩
  · cases h; exact ⟨Try.f66, i_ref10_long, Try.func66, ok_ref10_long⟩
  · cases h; exact ⟨Try.f67, i_ref10_bytes, Try.func67, ok_ref10_bytes⟩
  · cases h; exact ⟨Try.f89, i_ref02_Bytes, Try.func89, ok_ref02_Bytes⟩
  · cases h; exact ⟨Try.f102, i_ref02_Number, Try.func102, ok_ref02_Number⟩
  · cases h; exact ⟨Try.f13, i_law10_CodeReads, Try.func13, ok_law10_CodeReads⟩
  · cases h; exact ⟨Try.f46, i_ref10_Read, Try.func46, ok_ref10_Read⟩
  · cases h; exact ⟨Try.f73, i_ref10_read, Try.func73, ok_ref10_read⟩
  · cases h; exact ⟨Try.f92, i_ref02_Reader_Byte, Try.func92, ok_ref02_Reader_Byte⟩
  · cases h; exact ⟨Try.f93, i_ref02_Reader_Bytes, Try.func93, ok_ref02_Reader_Bytes⟩
  · cases h; exact ⟨Try.f103, i_ref02_Reader_Number, Try.func103, ok_ref02_Reader_Number⟩
  · cases h; exact ⟨Try.f74, i_ref02_Reader_End, Try.func74, ok_ref02_Reader_End⟩
  · cases h; exact ⟨Try.f14, i_law10_CodeBack, Try.func14, ok_law10_CodeBack⟩
  · cases h; exact ⟨Try.f16, i_law05_AvlDeletes, Try.func16, ok_law05_AvlDeletes⟩
  · cases h; exact ⟨Try.f47, i_avl_Delete, Try.func47, ok_avl_Delete⟩
  · cases h; exact ⟨Try.f75, i_avl_take, Try.func75, ok_avl_take⟩
  · cases h; exact ⟨Try.f48, i_ref05_Delete, Try.func48, ok_ref05_Delete⟩
  · cases h; exact ⟨Try.f17, i_law05_AvlHolds, Try.func17, ok_law05_AvlHolds⟩
  · cases h
end Go.Proofs.Ytebiajdkgpcidaa
