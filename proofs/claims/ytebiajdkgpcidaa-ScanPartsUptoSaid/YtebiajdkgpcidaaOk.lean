/- The IR is the program's. -/
import Derived.Test.YtebiajdkgpcidaaIr
import Derived.Test.YtebiajdkgpcidaaChecked
set_option linter.unusedVariables false
namespace Go.Proofs.Ytebiajdkgpcidaa
open Go.Ev

theorem ok_law06_ScanIn : trFn Try.prog Try.f3 i_law06_ScanIn = some i_law06_ScanIn := by kernel_rfl
theorem ok_law06_up : trFn Try.prog Try.f18 i_law06_up = some i_law06_up := by kernel_rfl
theorem ok_scan_In : trFn Try.prog Try.f20 i_scan_In = some i_scan_In := by kernel_rfl
theorem ok_bytes_Compare : trFn Try.prog Try.f52 i_bytes_Compare = some i_bytes_Compare := by kernel_rfl
theorem ok_scan_Point : trFn Try.prog Try.f19 i_scan_Point = some i_scan_Point := by kernel_rfl
theorem ok_slices_Clone_sl_byte_byte : trFn Try.prog Try.f50 i_slices_Clone_sl_byte_byte = some i_slices_Clone_sl_byte_byte := by kernel_rfl
theorem ok_scan_next : trFn Try.prog Try.f51 i_scan_next = some i_scan_next := by kernel_rfl
theorem ok_slices_Clone_sl_byte_byte_v1 : trFn Try.prog Try.f50 i_slices_Clone_sl_byte_byte_v1 = some i_slices_Clone_sl_byte_byte_v1 := by kernel_rfl
theorem ok_ref06_In : trFn Try.prog Try.f21 i_ref06_In = some i_ref06_In := by kernel_rfl
theorem ok_law06_ScanEmpty : trFn Try.prog Try.f4 i_law06_ScanEmpty = some i_law06_ScanEmpty := by kernel_rfl
theorem ok_scan_Empty : trFn Try.prog Try.f22 i_scan_Empty = some i_scan_Empty := by kernel_rfl
theorem ok_ref06_Empty : trFn Try.prog Try.f23 i_ref06_Empty = some i_ref06_Empty := by kernel_rfl
theorem ok_law06_ScanNone : trFn Try.prog Try.f5 i_law06_ScanNone = some i_law06_ScanNone := by kernel_rfl
theorem ok_law06_ScanParts : trFn Try.prog Try.f8 i_law06_ScanParts = some i_law06_ScanParts := by kernel_rfl
theorem ok_ref05_Grown : trFn Try.prog Try.f29 i_ref05_Grown = some i_ref05_Grown := by kernel_rfl
theorem ok_ref05_Put : trFn Try.prog Try.f40 i_ref05_Put = some i_ref05_Put := by kernel_rfl
theorem ok_ref05_Node : trFn Try.prog Try.f61 i_ref05_Node = some i_ref05_Node := by kernel_rfl
theorem ok_ref05_level : trFn Try.prog Try.f62 i_ref05_level = some i_ref05_level := by kernel_rfl
theorem ok_ref05_tilt : trFn Try.prog Try.f83 i_ref05_tilt = some i_ref05_tilt := by kernel_rfl
theorem ok_ref04_Depth : trFn Try.prog Try.f56 i_ref04_Depth = some i_ref04_Depth := by kernel_rfl
theorem ok_ref05_left : trFn Try.prog Try.f84 i_ref05_left = some i_ref05_left := by kernel_rfl
theorem ok_ref05_right : trFn Try.prog Try.f85 i_ref05_right = some i_ref05_right := by kernel_rfl
theorem ok_scan_Range : trFn Try.prog Try.f25 i_scan_Range = some i_scan_Range := by kernel_rfl
theorem ok_avl_Is : trFn Try.prog Try.f35 i_avl_Is = some i_avl_Is := by kernel_rfl
theorem ok_tree_Full : trFn Try.prog Try.f57 i_tree_Full = some i_tree_Full := by kernel_rfl
theorem ok_tree_Check : trFn Try.prog Try.f63 i_tree_Check = some i_tree_Check := by kernel_rfl
theorem ok_tree_deep : trFn Try.prog Try.f86 i_tree_deep = some i_tree_deep := by kernel_rfl
theorem ok_tree_deep_1 : trFn Try.prog Try.f99 i_tree_deep_1 = some i_tree_deep_1 := by kernel_rfl
theorem ok_slices_ContainsFunc_sl_api_Tree_api_Tree : trFn Try.prog Try.f94 i_slices_ContainsFunc_sl_api_Tree_api_Tree = some i_slices_ContainsFunc_sl_api_Tree_api_Tree := by kernel_rfl
theorem ok_slices_IndexFunc_sl_api_Tree_api_Tree : trFn Try.prog Try.f104 i_slices_IndexFunc_sl_api_Tree_api_Tree = some i_slices_IndexFunc_sl_api_Tree_api_Tree := by kernel_rfl
theorem ok_tree_formed : trFn Try.prog Try.f87 i_tree_formed = some i_tree_formed := by kernel_rfl
theorem ok_tree_formed_1 : trFn Try.prog Try.f100 i_tree_formed_1 = some i_tree_formed_1 := by kernel_rfl
theorem ok_tree_full : trFn Try.prog Try.f80 i_tree_full = some i_tree_full := by kernel_rfl
theorem ok_tree_full_1 : trFn Try.prog Try.f95 i_tree_full_1 = some i_tree_full_1 := by kernel_rfl
theorem ok_tree_List : trFn Try.prog Try.f53 i_tree_List = some i_tree_List := by kernel_rfl
theorem ok_tree_List_1 : trFn Try.prog Try.f77 i_tree_List_1 = some i_tree_List_1 := by kernel_rfl
theorem ok_avl_even : trFn Try.prog Try.f58 i_avl_even = some i_avl_even := by kernel_rfl
theorem ok_ref05_Get : trFn Try.prog Try.f32 i_ref05_Get = some i_ref05_Get := by kernel_rfl
theorem ok_ref04_List : trFn Try.prog Try.f49 i_ref04_List = some i_ref04_List := by kernel_rfl
theorem ok_ref06_Same : trFn Try.prog Try.f27 i_ref06_Same = some i_ref06_Same := by kernel_rfl
theorem tabOk : TabOk Try.prog tab := fun f fn h => by
  unfold tab at h
  split at h
  · cases h; exact ⟨Try.f3, i_law06_ScanIn, Try.func3, ok_law06_ScanIn⟩
  · cases h; exact ⟨Try.f18, i_law06_up, Try.func18, ok_law06_up⟩
  · cases h; exact ⟨Try.f20, i_scan_In, Try.func20, ok_scan_In⟩
  · cases h; exact ⟨Try.f52, i_bytes_Compare, Try.func52, ok_bytes_Compare⟩
  · cases h; exact ⟨Try.f19, i_scan_Point, Try.func19, ok_scan_Point⟩
  · cases h; exact ⟨Try.f50, i_slices_Clone_sl_byte_byte, Try.func50, ok_slices_Clone_sl_byte_byte⟩
  · cases h; exact ⟨Try.f51, i_scan_next, Try.func51, ok_scan_next⟩
  · cases h; exact ⟨Try.f50, i_slices_Clone_sl_byte_byte_v1, Try.func50, ok_slices_Clone_sl_byte_byte_v1⟩
  · cases h; exact ⟨Try.f21, i_ref06_In, Try.func21, ok_ref06_In⟩
  · cases h; exact ⟨Try.f4, i_law06_ScanEmpty, Try.func4, ok_law06_ScanEmpty⟩
  · cases h; exact ⟨Try.f22, i_scan_Empty, Try.func22, ok_scan_Empty⟩
  · cases h; exact ⟨Try.f23, i_ref06_Empty, Try.func23, ok_ref06_Empty⟩
  · cases h; exact ⟨Try.f5, i_law06_ScanNone, Try.func5, ok_law06_ScanNone⟩
  · cases h; exact ⟨Try.f8, i_law06_ScanParts, Try.func8, ok_law06_ScanParts⟩
  · cases h; exact ⟨Try.f29, i_ref05_Grown, Try.func29, ok_ref05_Grown⟩
  · cases h; exact ⟨Try.f40, i_ref05_Put, Try.func40, ok_ref05_Put⟩
  · cases h; exact ⟨Try.f61, i_ref05_Node, Try.func61, ok_ref05_Node⟩
  · cases h; exact ⟨Try.f62, i_ref05_level, Try.func62, ok_ref05_level⟩
  · cases h; exact ⟨Try.f83, i_ref05_tilt, Try.func83, ok_ref05_tilt⟩
  · cases h; exact ⟨Try.f56, i_ref04_Depth, Try.func56, ok_ref04_Depth⟩
  · cases h; exact ⟨Try.f84, i_ref05_left, Try.func84, ok_ref05_left⟩
  · cases h; exact ⟨Try.f85, i_ref05_right, Try.func85, ok_ref05_right⟩
  · cases h; exact ⟨Try.f25, i_scan_Range, Try.func25, ok_scan_Range⟩
  · cases h; exact ⟨Try.f35, i_avl_Is, Try.func35, ok_avl_Is⟩
  · cases h; exact ⟨Try.f57, i_tree_Full, Try.func57, ok_tree_Full⟩
  · cases h; exact ⟨Try.f63, i_tree_Check, Try.func63, ok_tree_Check⟩
  · cases h; exact ⟨Try.f86, i_tree_deep, Try.func86, ok_tree_deep⟩
  · cases h; exact ⟨Try.f99, i_tree_deep_1, Try.func99, ok_tree_deep_1⟩
  · cases h; exact ⟨Try.f94, i_slices_ContainsFunc_sl_api_Tree_api_Tree, Try.func94, ok_slices_ContainsFunc_sl_api_Tree_api_Tree⟩
  · cases h; exact ⟨Try.f104, i_slices_IndexFunc_sl_api_Tree_api_Tree, Try.func104, ok_slices_IndexFunc_sl_api_Tree_api_Tree⟩
  · cases h; exact ⟨Try.f87, i_tree_formed, Try.func87, ok_tree_formed⟩
  · cases h; exact ⟨Try.f100, i_tree_formed_1, Try.func100, ok_tree_formed_1⟩
  · cases h; exact ⟨Try.f80, i_tree_full, Try.func80, ok_tree_full⟩
  · cases h; exact ⟨Try.f95, i_tree_full_1, Try.func95, ok_tree_full_1⟩
  · cases h; exact ⟨Try.f53, i_tree_List, Try.func53, ok_tree_List⟩
  · cases h; exact ⟨Try.f77, i_tree_List_1, Try.func77, ok_tree_List_1⟩
  · cases h; exact ⟨Try.f58, i_avl_even, Try.func58, ok_avl_even⟩
  · cases h; exact ⟨Try.f32, i_ref05_Get, Try.func32, ok_ref05_Get⟩
  · cases h; exact ⟨Try.f49, i_ref04_List, Try.func49, ok_ref04_List⟩
  · cases h; exact ⟨Try.f27, i_ref06_Same, Try.func27, ok_ref06_Same⟩
  · cases h
end Go.Proofs.Ytebiajdkgpcidaa
