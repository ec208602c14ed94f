/- The IR is the program's. -/
import Derived.Test.YtfihodpdjpcpfaaIr
import Derived.Test.YtfihodpdjpcpfaaChecked
set_option linter.unusedVariables false
namespace Go.Proofs.Ytfihodpdjpcpfaa
open Go.Ev

theorem ok_law06_ScanStays : trFn Try.prog Try.f3 i_law06_ScanStays = some i_law06_ScanStays := by kernel_rfl
theorem ok_law06_up : trFn Try.prog Try.f4 i_law06_up = some i_law06_up := by kernel_rfl
theorem ok_scan_In : trFn Try.prog Try.f11 i_scan_In = some i_scan_In := by kernel_rfl
theorem ok_bytes_Compare : trFn Try.prog Try.f18 i_bytes_Compare = some i_bytes_Compare := by kernel_rfl
theorem ok_ref05_Grown : trFn Try.prog Try.f5 i_ref05_Grown = some i_ref05_Grown := by kernel_rfl
theorem ok_ref05_Put : trFn Try.prog Try.f12 i_ref05_Put = some i_ref05_Put := by kernel_rfl
theorem ok_ref05_Node : trFn Try.prog Try.f19 i_ref05_Node = some i_ref05_Node := by kernel_rfl
theorem ok_ref05_level : trFn Try.prog Try.f20 i_ref05_level = some i_ref05_level := by kernel_rfl
theorem ok_ref05_tilt : trFn Try.prog Try.f26 i_ref05_tilt = some i_ref05_tilt := by kernel_rfl
theorem ok_ref04_Depth : trFn Try.prog Try.f32 i_ref04_Depth = some i_ref04_Depth := by kernel_rfl
theorem ok_ref05_left : trFn Try.prog Try.f27 i_ref05_left = some i_ref05_left := by kernel_rfl
theorem ok_ref05_right : trFn Try.prog Try.f28 i_ref05_right = some i_ref05_right := by kernel_rfl
theorem ok_ref04_Copy : trFn Try.prog Try.f6 i_ref04_Copy = some i_ref04_Copy := by kernel_rfl
theorem ok_scan_Range_v1 : trFn Try.prog Try.f7 i_scan_Range_v1 = some i_scan_Range_v1 := by kernel_rfl
theorem ok_avl_Is : trFn Try.prog Try.f13 i_avl_Is = some i_avl_Is := by kernel_rfl
theorem ok_tree_Full : trFn Try.prog Try.f21 i_tree_Full = some i_tree_Full := by kernel_rfl
theorem ok_tree_Check : trFn Try.prog Try.f23 i_tree_Check = some i_tree_Check := by kernel_rfl
theorem ok_tree_deep : trFn Try.prog Try.f30 i_tree_deep = some i_tree_deep := by kernel_rfl
theorem ok_tree_deep_1 : trFn Try.prog Try.f35 i_tree_deep_1 = some i_tree_deep_1 := by kernel_rfl
theorem ok_slices_ContainsFunc_sl_api_Tree_api_Tree : trFn Try.prog Try.f33 i_slices_ContainsFunc_sl_api_Tree_api_Tree = some i_slices_ContainsFunc_sl_api_Tree_api_Tree := by kernel_rfl
theorem ok_slices_IndexFunc_sl_api_Tree_api_Tree : trFn Try.prog Try.f37 i_slices_IndexFunc_sl_api_Tree_api_Tree = some i_slices_IndexFunc_sl_api_Tree_api_Tree := by kernel_rfl
theorem ok_tree_formed : trFn Try.prog Try.f31 i_tree_formed = some i_tree_formed := by kernel_rfl
theorem ok_tree_formed_1 : trFn Try.prog Try.f36 i_tree_formed_1 = some i_tree_formed_1 := by kernel_rfl
theorem ok_tree_full : trFn Try.prog Try.f29 i_tree_full = some i_tree_full := by kernel_rfl
theorem ok_tree_full_1 : trFn Try.prog Try.f34 i_tree_full_1 = some i_tree_full_1 := by kernel_rfl
theorem ok_tree_List : trFn Try.prog Try.f14 i_tree_List = some i_tree_List := by kernel_rfl
theorem ok_tree_List_1 : trFn Try.prog Try.f24 i_tree_List_1 = some i_tree_List_1 := by kernel_rfl
theorem ok_avl_even : trFn Try.prog Try.f22 i_avl_even = some i_avl_even := by kernel_rfl
theorem ok_slices_Clone_sl_byte_byte_v1 : trFn Try.prog Try.f15 i_slices_Clone_sl_byte_byte_v1 = some i_slices_Clone_sl_byte_byte_v1 := by kernel_rfl
theorem ok_ref04_Same : trFn Try.prog Try.f8 i_ref04_Same = some i_ref04_Same := by kernel_rfl
theorem ok_ref06_Range : trFn Try.prog Try.f10 i_ref06_Range = some i_ref06_Range := by kernel_rfl
theorem ok_ref04_List : trFn Try.prog Try.f16 i_ref04_List = some i_ref04_List := by kernel_rfl
theorem ok_ref06_In : trFn Try.prog Try.f17 i_ref06_In = some i_ref06_In := by kernel_rfl
theorem ok_ref06_Same : trFn Try.prog Try.f9 i_ref06_Same = some i_ref06_Same := by kernel_rfl
theorem tabOk : TabOk Try.prog tab := fun f fn h => by
  unfold tab at h
  split at h
  · cases h; exact ⟨Try.f3, i_law06_ScanStays, Try.func3, ok_law06_ScanStays⟩
  · cases h; exact ⟨Try.f4, i_law06_up, Try.func4, ok_law06_up⟩
  · cases h; exact ⟨Try.f11, i_scan_In, Try.func11, ok_scan_In⟩
  · cases h; exact ⟨Try.f18, i_bytes_Compare, Try.func18, ok_bytes_Compare⟩
  · cases h; exact ⟨Try.f5, i_ref05_Grown, Try.func5, ok_ref05_Grown⟩
  · cases h; exact ⟨Try.f12, i_ref05_Put, Try.func12, ok_ref05_Put⟩
  · cases h; exact ⟨Try.f19, i_ref05_Node, Try.func19, ok_ref05_Node⟩
  · cases h; exact ⟨Try.f20, i_ref05_level, Try.func20, ok_ref05_level⟩
  · cases h; exact ⟨Try.f26, i_ref05_tilt, Try.func26, ok_ref05_tilt⟩
  · cases h; exact ⟨Try.f32, i_ref04_Depth, Try.func32, ok_ref04_Depth⟩
  · cases h; exact ⟨Try.f27, i_ref05_left, Try.func27, ok_ref05_left⟩
  · cases h; exact ⟨Try.f28, i_ref05_right, Try.func28, ok_ref05_right⟩
  · cases h; exact ⟨Try.f6, i_ref04_Copy, Try.func6, ok_ref04_Copy⟩
  · cases h; exact ⟨Try.f7, i_scan_Range_v1, Try.func7, ok_scan_Range_v1⟩
  · cases h; exact ⟨Try.f13, i_avl_Is, Try.func13, ok_avl_Is⟩
  · cases h; exact ⟨Try.f21, i_tree_Full, Try.func21, ok_tree_Full⟩
  · cases h; exact ⟨Try.f23, i_tree_Check, Try.func23, ok_tree_Check⟩
  · cases h; exact ⟨Try.f30, i_tree_deep, Try.func30, ok_tree_deep⟩
  · cases h; exact ⟨Try.f35, i_tree_deep_1, Try.func35, ok_tree_deep_1⟩
  · cases h; exact ⟨Try.f33, i_slices_ContainsFunc_sl_api_Tree_api_Tree, Try.func33, ok_slices_ContainsFunc_sl_api_Tree_api_Tree⟩
  · cases h; exact ⟨Try.f37, i_slices_IndexFunc_sl_api_Tree_api_Tree, Try.func37, ok_slices_IndexFunc_sl_api_Tree_api_Tree⟩
  · cases h; exact ⟨Try.f31, i_tree_formed, Try.func31, ok_tree_formed⟩
  · cases h; exact ⟨Try.f36, i_tree_formed_1, Try.func36, ok_tree_formed_1⟩
  · cases h; exact ⟨Try.f29, i_tree_full, Try.func29, ok_tree_full⟩
  · cases h; exact ⟨Try.f34, i_tree_full_1, Try.func34, ok_tree_full_1⟩
  · cases h; exact ⟨Try.f14, i_tree_List, Try.func14, ok_tree_List⟩
  · cases h; exact ⟨Try.f24, i_tree_List_1, Try.func24, ok_tree_List_1⟩
  · cases h; exact ⟨Try.f22, i_avl_even, Try.func22, ok_avl_even⟩
  · cases h; exact ⟨Try.f15, i_slices_Clone_sl_byte_byte_v1, Try.func15, ok_slices_Clone_sl_byte_byte_v1⟩
  · cases h; exact ⟨Try.f8, i_ref04_Same, Try.func8, ok_ref04_Same⟩
  · cases h; exact ⟨Try.f10, i_ref06_Range, Try.func10, ok_ref06_Range⟩
  · cases h; exact ⟨Try.f16, i_ref04_List, Try.func16, ok_ref04_List⟩
  · cases h; exact ⟨Try.f17, i_ref06_In, Try.func17, ok_ref06_In⟩
  · cases h; exact ⟨Try.f9, i_ref06_Same, Try.func9, ok_ref06_Same⟩
  · cases h
end Go.Proofs.Ytfihodpdjpcpfaa
