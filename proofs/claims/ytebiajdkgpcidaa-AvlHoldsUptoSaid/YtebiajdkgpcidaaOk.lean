/- The IR is the program's. -/
import Derived.Test.YtebiajdkgpcidaaIr
import Derived.Test.YtebiajdkgpcidaaChecked
set_option linter.unusedVariables false
namespace Go.Proofs.Ytebiajdkgpcidaa
open Go.Ev

theorem ok_law05_AvlHolds : trFn Try.prog Try.f17 i_law05_AvlHolds = some i_law05_AvlHolds := by kernel_rfl
theorem ok_law05_up : trFn Try.prog Try.f33 i_law05_up = some i_law05_up := by kernel_rfl
theorem ok_avl_Put : trFn Try.prog Try.f39 i_avl_Put = some i_avl_Put := by kernel_rfl
theorem ok_avl_asked : trFn Try.prog Try.f59 i_avl_asked = some i_avl_asked := by kernel_rfl
theorem ok_avl_Is : trFn Try.prog Try.f35 i_avl_Is = some i_avl_Is := by kernel_rfl
theorem ok_tree_Full : trFn Try.prog Try.f57 i_tree_Full = some i_tree_Full := by kernel_rfl
theorem ok_tree_Check : trFn Try.prog Try.f63 i_tree_Check = some i_tree_Check := by kernel_rfl
theorem ok_tree_deep : trFn Try.prog Try.f86 i_tree_deep = some i_tree_deep := by kernel_rfl
theorem ok_tree_deep_1 : trFn Try.prog Try.f99 i_tree_deep_1 = some i_tree_deep_1 := by kernel_rfl
theorem ok_slices_ContainsFunc_sl_api_Tree_api_Tree : trFn Try.prog Try.f94 i_slices_ContainsFunc_sl_api_Tree_api_Tree = some i_slices_ContainsFunc_sl_api_Tree_api_Tree := by kernel_rfl
theorem ok_slices_IndexFunc_sl_api_Tree_api_Tree : trFn Try.prog Try.f104 i_slices_IndexFunc_sl_api_Tree_api_Tree = some i_slices_IndexFunc_sl_api_Tree_api_Tree := by kernel_rfl
theorem ok_tree_formed : trFn Try.prog Try.f87 i_tree_formed = some i_tree_formed := by kernel_rfl
theorem ok_tree_formed_1 : trFn Try.prog Try.f100 i_tree_formed_1 = some i_tree_formed_1 := by kernel_rfl
theorem ok_tree_full : trFn Try.prog Try.f80 i_tree_full = some i_tree_full := by kernel_rfl
theorem ok_tree_full_1 : trFn Try.prog Try.f95 i_tree_full_1 = some i_tree_full_1 := by kernel_rfl
theorem ok_tree_List : trFn Try.prog Try.f53 i_tree_List = some i_tree_List := by kernel_rfl
theorem ok_tree_List_1 : trFn Try.prog Try.f77 i_tree_List_1 = some i_tree_List_1 := by kernel_rfl
theorem ok_bytes_Compare : trFn Try.prog Try.f52 i_bytes_Compare = some i_bytes_Compare := by kernel_rfl
theorem ok_avl_even : trFn Try.prog Try.f58 i_avl_even = some i_avl_even := by kernel_rfl
theorem ok_slices_Clone_sl_byte_byte : trFn Try.prog Try.f50 i_slices_Clone_sl_byte_byte = some i_slices_Clone_sl_byte_byte := by kernel_rfl
theorem ok_avl_put : trFn Try.prog Try.f60 i_avl_put = some i_avl_put := by kernel_rfl
theorem ok_avl_node : trFn Try.prog Try.f81 i_avl_node = some i_avl_node := by kernel_rfl
theorem ok_avl_leveled : trFn Try.prog Try.f82 i_avl_leveled = some i_avl_leveled := by kernel_rfl
theorem ok_avl_depth : trFn Try.prog Try.f96 i_avl_depth = some i_avl_depth := by kernel_rfl
theorem ok_avl_left : trFn Try.prog Try.f97 i_avl_left = some i_avl_left := by kernel_rfl
theorem ok_avl_right : trFn Try.prog Try.f98 i_avl_right = some i_avl_right := by kernel_rfl
theorem ok_avl_Get : trFn Try.prog Try.f36 i_avl_Get = some i_avl_Get := by kernel_rfl
theorem ok_avl_Delete : trFn Try.prog Try.f47 i_avl_Delete = some i_avl_Delete := by kernel_rfl
theorem ok_avl_take : trFn Try.prog Try.f75 i_avl_take = some i_avl_take := by kernel_rfl
theorem ok_ref04_List : trFn Try.prog Try.f49 i_ref04_List = some i_ref04_List := by kernel_rfl
theorem tabOk : TabOk Try.prog tab := fun f fn h => by
  unfold tab at h
  split at h
  · cases h; exact ⟨Try.f17, i_law05_AvlHolds, Try.func17, ok_law05_AvlHolds⟩
  · cases h; exact ⟨Try.f33, i_law05_up, Try.func33, ok_law05_up⟩
  · cases h; exact ⟨Try.f39, i_avl_Put, Try.func39, ok_avl_Put⟩
  · cases h; exact ⟨Try.f59, i_avl_asked, Try.func59, ok_avl_asked⟩
  · cases h; exact ⟨Try.f35, i_avl_Is, Try.func35, ok_avl_Is⟩
  · cases h; exact ⟨Try.f57, i_tree_Full, Try.func57, ok_tree_Full⟩
  · cases h; exact ⟨Try.f63, i_tree_Check, Try.func63, ok_tree_Check⟩
  · cases h; exact ⟨Try.f86, i_tree_deep, Try.func86, ok_tree_deep⟩
  · cases h; exact ⟨Try.f99, i_tree_deep_1, Try.func99, ok_tree_deep_1⟩
  · cases h; exact ⟨Try.f94, i_slices_ContainsFunc_sl_api_Tree_api_Tree, Try.func94, ok_slices_ContainsFunc_sl_api_Tree_api_Tree⟩
  · cases h; exact ⟨Try.f104, i_slices_IndexFunc_sl_api_Tree_api_Tree, Try.func104, ok_slices_IndexFunc_sl_api_Tree_api_Tree⟩
  · cases h; exact ⟨Try.f87, i_tree_formed, Try.func87, ok_tree_formed⟩
  · cases h; exact ⟨Try.f100, i_tree_formed_1, Try.func100, ok_tree_formed_1⟩
  · cases h; exact ⟨Try.f80, i_tree_full, Try.func80, ok_tree_full⟩
  · cases h; exact ⟨Try.f95, i_tree_full_1, Try.func95, ok_tree_full_1⟩
  · cases h; exact ⟨Try.f53, i_tree_List, Try.func53, ok_tree_List⟩
  · cases h; exact ⟨Try.f77, i_tree_List_1, Try.func77, ok_tree_List_1⟩
  · cases h; exact ⟨Try.f52, i_bytes_Compare, Try.func52, ok_bytes_Compare⟩
  · cases h; exact ⟨Try.f58, i_avl_even, Try.func58, ok_avl_even⟩
  · cases h; exact ⟨Try.f50, i_slices_Clone_sl_byte_byte, Try.func50, ok_slices_Clone_sl_byte_byte⟩
  · cases h; exact ⟨Try.f60, i_avl_put, Try.func60, ok_avl_put⟩
  · cases h; exact ⟨Try.f81, i_avl_node, Try.func81, ok_avl_node⟩
  · cases h; exact ⟨Try.f82, i_avl_leveled, Try.func82, ok_avl_leveled⟩
  · cases h; exact ⟨Try.f96, i_avl_depth, Try.func96, ok_avl_depth⟩
  · cases h; exact ⟨Try.f97, i_avl_left, Try.func97, ok_avl_left⟩
  · cases h; exact ⟨Try.f98, i_avl_right, Try.func98, ok_avl_right⟩
  · cases h; exact ⟨Try.f36, i_avl_Get, Try.func36, ok_avl_Get⟩
  · cases h; exact ⟨Try.f47, i_avl_Delete, Try.func47, ok_avl_Delete⟩
  · cases h; exact ⟨Try.f75, i_avl_take, Try.func75, ok_avl_take⟩
  · cases h; exact ⟨Try.f49, i_ref04_List, Try.func49, ok_ref04_List⟩
  · cases h
end Go.Proofs.Ytebiajdkgpcidaa
