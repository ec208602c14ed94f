/- The IR is the program's. -/
import Derived.Test.YtebiajdkgpcidaaDoorIr
import Derived.Test.YtebiajdkgpcidaaDoorChecked
set_option linter.unusedVariables false
namespace Go.Proofs.YtebiajdkgpcidaaDoor
open Go.Ev

theorem ok_law04_TreeStays : trFn Tryd.prog Tryd.f6 i_law04_TreeStays = some i_law04_TreeStays := by kernel_rfl
theorem ok_law04_up : trFn Tryd.prog Tryd.f12 i_law04_up = some i_law04_up := by kernel_rfl
theorem ok_tree_Digest : trFn Tryd.prog Tryd.f14 i_tree_Digest = some i_tree_Digest := by kernel_rfl
theorem ok_tree_Check : trFn Tryd.prog Tryd.f24 i_tree_Check = some i_tree_Check := by kernel_rfl
theorem ok_tree_deep : trFn Tryd.prog Tryd.f50 i_tree_deep = some i_tree_deep := by kernel_rfl
theorem ok_tree_deep_1 : trFn Tryd.prog Tryd.f72 i_tree_deep_1 = some i_tree_deep_1 := by kernel_rfl
theorem ok_slices_ContainsFunc_sl_api_Tree_api_Tree : trFn Tryd.prog Tryd.f71 i_slices_ContainsFunc_sl_api_Tree_api_Tree = some i_slices_ContainsFunc_sl_api_Tree_api_Tree := by kernel_rfl
theorem ok_slices_IndexFunc_sl_api_Tree_api_Tree : trFn Tryd.prog Tryd.f85 i_slices_IndexFunc_sl_api_Tree_api_Tree = some i_slices_IndexFunc_sl_api_Tree_api_Tree := by kernel_rfl
theorem ok_tree_formed : trFn Tryd.prog Tryd.f51 i_tree_formed = some i_tree_formed := by kernel_rfl
theorem ok_tree_formed_1 : trFn Tryd.prog Tryd.f73 i_tree_formed_1 = some i_tree_formed_1 := by kernel_rfl
theorem ok_tree_told : trFn Tryd.prog Tryd.f40 i_tree_told = some i_tree_told := by kernel_rfl
theorem ok_digest_None : trFn Tryd.prog Tryd.f61 i_digest_None = some i_digest_None := by kernel_rfl
theorem ok_digest_Of : trFn Tryd.prog Tryd.f60 i_digest_Of = some i_digest_Of := by kernel_rfl
theorem ok_digest_width : trFn Tryd.prog Tryd.f77 i_digest_width = some i_digest_width := by kernel_rfl
theorem ok_sha_Sum : trFn Tryd.prog Tryd.f78 i_sha_Sum = some i_sha_Sum := by kernel_rfl
theorem ok_sha_Tail : trFn Tryd.prog Tryd.f89 i_sha_Tail = some i_sha_Tail := by kernel_rfl
theorem ok_sha_Step : trFn Tryd.prog Tryd.f90 i_sha_Step = some i_sha_Step := by kernel_rfl
theorem ok_sha_Words : trFn Tryd.prog Tryd.f95 i_sha_Words = some i_sha_Words := by kernel_rfl
theorem ok_math_bits_RotateLeft32 : trFn Tryd.prog Tryd.f97 i_math_bits_RotateLeft32 = some i_math_bits_RotateLeft32 := by kernel_rfl
theorem ok_sha_Round : trFn Tryd.prog Tryd.f96 i_sha_Round = some i_sha_Round := by kernel_rfl
theorem ok_slices_Clone_sl_byte_byte : trFn Tryd.prog Tryd.f62 i_slices_Clone_sl_byte_byte = some i_slices_Clone_sl_byte_byte := by kernel_rfl
theorem ok_digest_Value : trFn Tryd.prog Tryd.f63 i_digest_Value = some i_digest_Value := by kernel_rfl
theorem ok_digest_Pair : trFn Tryd.prog Tryd.f64 i_digest_Pair = some i_digest_Pair := by kernel_rfl
theorem ok_coder_Bytes : trFn Tryd.prog Tryd.f80 i_coder_Bytes = some i_coder_Bytes := by kernel_rfl
theorem ok_coder_Number : trFn Tryd.prog Tryd.f92 i_coder_Number = some i_coder_Number := by kernel_rfl
theorem ok_slices_Concat_sl_byte_byte : trFn Tryd.prog Tryd.f79 i_slices_Concat_sl_byte_byte = some i_slices_Concat_sl_byte_byte := by kernel_rfl
theorem ok_slices_Grow_sl_byte_byte : trFn Tryd.prog Tryd.f91 i_slices_Grow_sl_byte_byte = some i_slices_Grow_sl_byte_byte := by kernel_rfl
theorem ok_tree_of : trFn Tryd.prog Tryd.f65 i_tree_of = some i_tree_of := by kernel_rfl
theorem ok_digest_Node : trFn Tryd.prog Tryd.f66 i_digest_Node = some i_digest_Node := by kernel_rfl
theorem ok_tree_Full : trFn Tryd.prog Tryd.f38 i_tree_Full = some i_tree_Full := by kernel_rfl
theorem ok_tree_full : trFn Tryd.prog Tryd.f59 i_tree_full = some i_tree_full := by kernel_rfl
theorem ok_tree_full_1 : trFn Tryd.prog Tryd.f76 i_tree_full_1 = some i_tree_full_1 := by kernel_rfl
theorem ok_law04_small : trFn Tryd.prog Tryd.f13 i_law04_small = some i_law04_small := by kernel_rfl
theorem ok_ref04_Light : trFn Tryd.prog Tryd.f39 i_ref04_Light = some i_ref04_Light := by kernel_rfl
theorem ok_ref04_Copy : trFn Tryd.prog Tryd.f23 i_ref04_Copy = some i_ref04_Copy := by kernel_rfl
theorem ok_tree_List : trFn Tryd.prog Tryd.f20 i_tree_List = some i_tree_List := by kernel_rfl
theorem ok_tree_List_1 : trFn Tryd.prog Tryd.f49 i_tree_List_1 = some i_tree_List_1 := by kernel_rfl
theorem ok_ref04_Same : trFn Tryd.prog Tryd.f22 i_ref04_Same = some i_ref04_Same := by kernel_rfl
theorem tabOk : TabOk Tryd.prog tab := fun f fn h => by
  unfold tab at h
  split at h
  · cases h; exact ⟨Tryd.f6, i_law04_TreeStays, Tryd.func6, ok_law04_TreeStays⟩
  · cases h; exact ⟨Tryd.f12, i_law04_up, Tryd.func12, ok_law04_up⟩
  · cases h; exact ⟨Tryd.f14, i_tree_Digest, Tryd.func14, ok_tree_Digest⟩
  · cases h; exact ⟨Tryd.f24, i_tree_Check, Tryd.func24, ok_tree_Check⟩
  · cases h; exact ⟨Tryd.f50, i_tree_deep, Tryd.func50, ok_tree_deep⟩
  · cases h; exact ⟨Tryd.f72, i_tree_deep_1, Tryd.func72, ok_tree_deep_1⟩
  · cases h; exact ⟨Tryd.f71, i_slices_ContainsFunc_sl_api_Tree_api_Tree, Tryd.func71, ok_slices_ContainsFunc_sl_api_Tree_api_Tree⟩
  · cases h; exact ⟨Tryd.f85, i_slices_IndexFunc_sl_api_Tree_api_Tree, Tryd.func85, ok_slices_IndexFunc_sl_api_Tree_api_Tree⟩
  · cases h; exact ⟨Tryd.f51, i_tree_formed, Tryd.func51, ok_tree_formed⟩
  · cases h; exact ⟨Tryd.f73, i_tree_formed_1, Tryd.func73, ok_tree_formed_1⟩
  · cases h; exact ⟨Tryd.f40, i_tree_told, Tryd.func40, ok_tree_told⟩
  · cases h; exact ⟨Tryd.f61, i_digest_None, Tryd.func61, ok_digest_None⟩
  · cases h; exact ⟨Tryd.f60, i_digest_Of, Tryd.func60, ok_digest_Of⟩
  · cases h; exact ⟨Tryd.f77, i_digest_width, Tryd.func77, ok_digest_width⟩
  · cases h; exact ⟨Tryd.f78, i_sha_Sum, Tryd.func78, ok_sha_Sum⟩
  · cases h; exact ⟨Tryd.f89, i_sha_Tail, Tryd.func89, ok_sha_Tail⟩
  · cases h; exact ⟨Tryd.f90, i_sha_Step, Tryd.func90, ok_sha_Step⟩
  · cases h; exact ⟨Tryd.f95, i_sha_Words, Tryd.func95, ok_sha_Words⟩
  · cases h; exact ⟨Tryd.f97, i_math_bits_RotateLeft32, Tryd.func97, ok_math_bits_RotateLeft32⟩
  · cases h; exact ⟨Tryd.f96, i_sha_Round, Tryd.func96, ok_sha_Round⟩
  · cases h; exact ⟨Tryd.f62, i_slices_Clone_sl_byte_byte, Tryd.func62, ok_slices_Clone_sl_byte_byte⟩
  · cases h; exact ⟨Tryd.f63, i_digest_Value, Tryd.func63, ok_digest_Value⟩
  · cases h; exact ⟨Tryd.f64, i_digest_Pair, Tryd.func64, ok_digest_Pair⟩
  · cases h; exact ⟨Tryd.f80, i_coder_Bytes, Tryd.func80, ok_coder_Bytes⟩
  · cases h; exact ⟨Tryd.f92, i_coder_Number, Tryd.func92, ok_coder_Number⟩
  · cases h; exact ⟨Tryd.f79, i_slices_Concat_sl_byte_byte, Tryd.func79, ok_slices_Concat_sl_byte_byte⟩
  · cases h; exact ⟨Tryd.f91, i_slices_Grow_sl_byte_byte, Tryd.func91, ok_slices_Grow_sl_byte_byte⟩
  · cases h; exact ⟨Tryd.f65, i_tree_of, Tryd.func65, ok_tree_of⟩
  · cases h; exact ⟨Tryd.f66, i_digest_Node, Tryd.func66, ok_digest_Node⟩
  · cases h; exact ⟨Tryd.f38, i_tree_Full, Tryd.func38, ok_tree_Full⟩
  · cases h; exact ⟨Tryd.f59, i_tree_full, Tryd.func59, ok_tree_full⟩
  · cases h; exact ⟨Tryd.f76, i_tree_full_1, Tryd.func76, ok_tree_full_1⟩
  · cases h; exact ⟨Tryd.f13, i_law04_small, Tryd.func13, ok_law04_small⟩
  · cases h; exact ⟨Tryd.f39, i_ref04_Light, Tryd.func39, ok_ref04_Light⟩
  · cases h; exact ⟨Tryd.f23, i_ref04_Copy, Tryd.func23, ok_ref04_Copy⟩
  · cases h; exact ⟨Tryd.f20, i_tree_List, Tryd.func20, ok_tree_List⟩
  · cases h; exact ⟨Tryd.f49, i_tree_List_1, Tryd.func49, ok_tree_List_1⟩
  · cases h; exact ⟨Tryd.f22, i_ref04_Same, Tryd.func22, ok_ref04_Same⟩
  · cases h
end Go.Proofs.YtebiajdkgpcidaaDoor
