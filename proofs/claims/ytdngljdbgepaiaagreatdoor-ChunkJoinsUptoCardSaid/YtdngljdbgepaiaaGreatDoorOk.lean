/- The IR is the program's. -/
import Derived.Test.YtdngljdbgepaiaaGreatDoorIr
import Derived.Test.YtdngljdbgepaiaaGreatDoorChecked
set_option linter.unusedVariables false
namespace Go.Proofs.YtdngljdbgepaiaaGreatDoor
open Go.Ev

theorem ok_law11_ChunkJoins : trFn Tryz.prog Tryz.f3 i_law11_ChunkJoins = some i_law11_ChunkJoins := by kernel_rfl
theorem ok_law11_up : trFn Tryz.prog Tryz.f4 i_law11_up = some i_law11_up := by kernel_rfl
theorem ok_ref05_Grown : trFn Tryz.prog Tryz.f13 i_ref05_Grown = some i_ref05_Grown := by kernel_rfl
theorem ok_ref05_Put : trFn Tryz.prog Tryz.f31 i_ref05_Put = some i_ref05_Put := by kernel_rfl
theorem ok_ref05_Node : trFn Tryz.prog Tryz.f50 i_ref05_Node = some i_ref05_Node := by kernel_rfl
theorem ok_ref05_level : trFn Tryz.prog Tryz.f51 i_ref05_level = some i_ref05_level := by kernel_rfl
theorem ok_ref05_tilt : trFn Tryz.prog Tryz.f64 i_ref05_tilt = some i_ref05_tilt := by kernel_rfl
theorem ok_ref04_Depth : trFn Tryz.prog Tryz.f77 i_ref04_Depth = some i_ref04_Depth := by kernel_rfl
theorem ok_ref05_left : trFn Tryz.prog Tryz.f65 i_ref05_left = some i_ref05_left := by kernel_rfl
theorem ok_ref05_right : trFn Tryz.prog Tryz.f66 i_ref05_right = some i_ref05_right := by kernel_rfl
theorem ok_chunk_Cut : trFn Tryz.prog Tryz.f14 i_chunk_Cut = some i_chunk_Cut := by kernel_rfl
theorem ok_chunk_width : trFn Tryz.prog Tryz.f17 i_chunk_width = some i_chunk_width := by kernel_rfl
theorem ok_tree_Digest : trFn Tryz.prog Tryz.f32 i_tree_Digest = some i_tree_Digest := by kernel_rfl
theorem ok_tree_Check : trFn Tryz.prog Tryz.f18 i_tree_Check = some i_tree_Check := by kernel_rfl
theorem ok_tree_deep : trFn Tryz.prog Tryz.f35 i_tree_deep = some i_tree_deep := by kernel_rfl
theorem ok_tree_deep_1 : trFn Tryz.prog Tryz.f54 i_tree_deep_1 = some i_tree_deep_1 := by kernel_rfl
theorem ok_slices_ContainsFunc_sl_api_Tree_api_Tree : trFn Tryz.prog Tryz.f37 i_slices_ContainsFunc_sl_api_Tree_api_Tree = some i_slices_ContainsFunc_sl_api_Tree_api_Tree := by kernel_rfl
theorem ok_slices_IndexFunc_sl_api_Tree_api_Tree : trFn Tryz.prog Tryz.f56 i_slices_IndexFunc_sl_api_Tree_api_Tree = some i_slices_IndexFunc_sl_api_Tree_api_Tree := by kernel_rfl
theorem ok_tree_formed : trFn Tryz.prog Tryz.f36 i_tree_formed = some i_tree_formed := by kernel_rfl
theorem ok_tree_formed_1 : trFn Tryz.prog Tryz.f55 i_tree_formed_1 = some i_tree_formed_1 := by kernel_rfl
theorem ok_tree_told : trFn Tryz.prog Tryz.f52 i_tree_told = some i_tree_told := by kernel_rfl
theorem ok_digest_None : trFn Tryz.prog Tryz.f68 i_digest_None = some i_digest_None := by kernel_rfl
theorem ok_digest_Of : trFn Tryz.prog Tryz.f67 i_digest_Of = some i_digest_Of := by kernel_rfl
theorem ok_digest_width : trFn Tryz.prog Tryz.f78 i_digest_width = some i_digest_width := by kernel_rfl
theorem ok_sha_Sum : trFn Tryz.prog Tryz.f79 i_sha_Sum = some i_sha_Sum := by kernel_rfl
theorem ok_sha_Tail : trFn Tryz.prog Tryz.f85 i_sha_Tail = some i_sha_Tail := by kernel_rfl
theorem ok_sha_Step : trFn Tryz.prog Tryz.f86 i_sha_Step = some i_sha_Step := by kernel_rfl
theorem ok_sha_Words : trFn Tryz.prog Tryz.f91 i_sha_Words = some i_sha_Words := by kernel_rfl
theorem ok_math_bits_RotateLeft32 : trFn Tryz.prog Tryz.f94 i_math_bits_RotateLeft32 = some i_math_bits_RotateLeft32 := by kernel_rfl
theorem ok_sha_Round : trFn Tryz.prog Tryz.f92 i_sha_Round = some i_sha_Round := by kernel_rfl
theorem ok_slices_Clone_sl_byte_byte : trFn Tryz.prog Tryz.f69 i_slices_Clone_sl_byte_byte = some i_slices_Clone_sl_byte_byte := by kernel_rfl
theorem ok_digest_Value : trFn Tryz.prog Tryz.f70 i_digest_Value = some i_digest_Value := by kernel_rfl
theorem ok_digest_Pair : trFn Tryz.prog Tryz.f71 i_digest_Pair = some i_digest_Pair := by kernel_rfl
theorem ok_coder_Bytes : trFn Tryz.prog Tryz.f81 i_coder_Bytes = some i_coder_Bytes := by kernel_rfl
theorem ok_coder_Number : trFn Tryz.prog Tryz.f88 i_coder_Number = some i_coder_Number := by kernel_rfl
theorem ok_slices_Concat_sl_byte_byte : trFn Tryz.prog Tryz.f80 i_slices_Concat_sl_byte_byte = some i_slices_Concat_sl_byte_byte := by kernel_rfl
theorem ok_slices_Grow_sl_byte_byte : trFn Tryz.prog Tryz.f87 i_slices_Grow_sl_byte_byte = some i_slices_Grow_sl_byte_byte := by kernel_rfl
theorem ok_tree_of : trFn Tryz.prog Tryz.f72 i_tree_of = some i_tree_of := by kernel_rfl
theorem ok_digest_Node : trFn Tryz.prog Tryz.f73 i_digest_Node = some i_digest_Node := by kernel_rfl
theorem ok_tree_Full : trFn Tryz.prog Tryz.f33 i_tree_Full = some i_tree_Full := by kernel_rfl
theorem ok_tree_full : trFn Tryz.prog Tryz.f53 i_tree_full = some i_tree_full := by kernel_rfl
theorem ok_tree_full_1 : trFn Tryz.prog Tryz.f74 i_tree_full_1 = some i_tree_full_1 := by kernel_rfl
theorem ok_chunk_Cut_1 : trFn Tryz.prog Tryz.f34 i_chunk_Cut_1 = some i_chunk_Cut_1 := by kernel_rfl
theorem ok_chunk_Join : trFn Tryz.prog Tryz.f7 i_chunk_Join = some i_chunk_Join := by kernel_rfl
theorem ok_chunk_cuts : trFn Tryz.prog Tryz.f19 i_chunk_cuts = some i_chunk_cuts := by kernel_rfl
theorem ok_chunk_dark : trFn Tryz.prog Tryz.f20 i_chunk_dark = some i_chunk_dark := by kernel_rfl
theorem ok_chunk_Fits : trFn Tryz.prog Tryz.f21 i_chunk_Fits = some i_chunk_Fits := by kernel_rfl
theorem ok_bytes_Equal : trFn Tryz.prog Tryz.f38 i_bytes_Equal = some i_bytes_Equal := by kernel_rfl
theorem ok_chunk_Join_1 : trFn Tryz.prog Tryz.f22 i_chunk_Join_1 = some i_chunk_Join_1 := by kernel_rfl
theorem ok_chunk_Count : trFn Tryz.prog Tryz.f15 i_chunk_Count = some i_chunk_Count := by kernel_rfl
theorem ok_law11_small : trFn Tryz.prog Tryz.f5 i_law11_small = some i_law11_small := by kernel_rfl
theorem ok_ref04_Light : trFn Tryz.prog Tryz.f16 i_ref04_Light = some i_ref04_Light := by kernel_rfl
theorem ok_law11_all : trFn Tryz.prog Tryz.f6 i_law11_all = some i_law11_all := by kernel_rfl
theorem ok_ref01_Made : trFn Tryz.prog Tryz.f9 i_ref01_Made = some i_ref01_Made := by kernel_rfl
theorem ok_ref01_root : trFn Tryz.prog Tryz.f28 i_ref01_root = some i_ref01_root := by kernel_rfl
theorem ok_ref01_below : trFn Tryz.prog Tryz.f43 i_ref01_below = some i_ref01_below := by kernel_rfl
theorem ok_ref01_times : trFn Tryz.prog Tryz.f61 i_ref01_times = some i_ref01_times := by kernel_rfl
theorem ok_ref11_Join : trFn Tryz.prog Tryz.f8 i_ref11_Join = some i_ref11_Join := by kernel_rfl
theorem ok_ref04_Check : trFn Tryz.prog Tryz.f23 i_ref04_Check = some i_ref04_Check := by kernel_rfl
theorem ok_ref04_Deep : trFn Tryz.prog Tryz.f39 i_ref04_Deep = some i_ref04_Deep := by kernel_rfl
theorem ok_ref04_Formed : trFn Tryz.prog Tryz.f40 i_ref04_Formed = some i_ref04_Formed := by kernel_rfl
theorem ok_ref11_Dark : trFn Tryz.prog Tryz.f24 i_ref11_Dark = some i_ref11_Dark := by kernel_rfl
theorem ok_ref11_Cuts : trFn Tryz.prog Tryz.f25 i_ref11_Cuts = some i_ref11_Cuts := by kernel_rfl
theorem ok_ref11_Fits : trFn Tryz.prog Tryz.f26 i_ref11_Fits = some i_ref11_Fits := by kernel_rfl
theorem ok_ref04_Digest : trFn Tryz.prog Tryz.f41 i_ref04_Digest = some i_ref04_Digest := by kernel_rfl
theorem ok_ref03_Of : trFn Tryz.prog Tryz.f57 i_ref03_Of = some i_ref03_Of := by kernel_rfl
theorem ok_ref01_Tables_Sum : trFn Tryz.prog Tryz.f75 i_ref01_Tables_Sum = some i_ref01_Tables_Sum := by kernel_rfl
theorem ok_ref01_Tail : trFn Tryz.prog Tryz.f82 i_ref01_Tail = some i_ref01_Tail := by kernel_rfl
theorem ok_ref01_Tables_Step : trFn Tryz.prog Tryz.f83 i_ref01_Tables_Step = some i_ref01_Tables_Step := by kernel_rfl
theorem ok_ref01_Words : trFn Tryz.prog Tryz.f89 i_ref01_Words = some i_ref01_Words := by kernel_rfl
theorem ok_ref01_turn : trFn Tryz.prog Tryz.f93 i_ref01_turn = some i_ref01_turn := by kernel_rfl
theorem ok_ref01_Round : trFn Tryz.prog Tryz.f90 i_ref01_Round = some i_ref01_Round := by kernel_rfl
theorem ok_ref03_Value : trFn Tryz.prog Tryz.f58 i_ref03_Value = some i_ref03_Value := by kernel_rfl
theorem ok_ref03_Pair : trFn Tryz.prog Tryz.f59 i_ref03_Pair = some i_ref03_Pair := by kernel_rfl
theorem ok_ref02_Bytes : trFn Tryz.prog Tryz.f76 i_ref02_Bytes = some i_ref02_Bytes := by kernel_rfl
theorem ok_ref02_Number : trFn Tryz.prog Tryz.f84 i_ref02_Number = some i_ref02_Number := by kernel_rfl
theorem ok_ref03_Node : trFn Tryz.prog Tryz.f60 i_ref03_Node = some i_ref03_Node := by kernel_rfl
theorem ok_ref04_Full : trFn Tryz.prog Tryz.f42 i_ref04_Full = some i_ref04_Full := by kernel_rfl
theorem ok_ref11_fill : trFn Tryz.prog Tryz.f27 i_ref11_fill = some i_ref11_fill := by kernel_rfl
theorem ok_law00_Is : trFn Tryz.prog Tryz.f10 i_law00_Is = some i_law00_Is := by kernel_rfl
theorem ok_ref04_Same : trFn Tryz.prog Tryz.f11 i_ref04_Same = some i_ref04_Same := by kernel_rfl
theorem ok_law00_Code : trFn Tryz.prog Tryz.f12 i_law00_Code = some i_law00_Code := by kernel_rfl
theorem tabOk : TabOk Tryz.prog tab := fun f fn h => by
  unfold tab at h
  split at h
  · cases h; exact ⟨Tryz.f3, i_law11_ChunkJoins, Tryz.func3, ok_law11_ChunkJoins⟩
  · cases h; exact ⟨Tryz.f4, i_law11_up, Tryz.func4, ok_law11_up⟩
  · cases h; exact ⟨Tryz.f13, i_ref05_Grown, Tryz.func13, ok_ref05_Grown⟩
  · cases h; exact ⟨Tryz.f31, i_ref05_Put, Tryz.func31, ok_ref05_Put⟩
  · cases h; exact ⟨Tryz.f50, i_ref05_Node, Tryz.func50, ok_ref05_Node⟩
  · cases h; exact ⟨Tryz.f51, i_ref05_level, Tryz.func51, ok_ref05_level⟩
  · cases h; exact ⟨Tryz.f64, i_ref05_tilt, Tryz.func64, ok_ref05_tilt⟩
  · cases h; exact ⟨Tryz.f77, i_ref04_Depth, Tryz.func77, ok_ref04_Depth⟩
  · cases h; exact ⟨Tryz.f65, i_ref05_left, Tryz.func65, ok_ref05_left⟩
  · cases h; exact ⟨Tryz.f66, i_ref05_right, Tryz.func66, ok_ref05_right⟩
  · cases h; exact ⟨Tryz.f14, i_chunk_Cut, Tryz.func14, ok_chunk_Cut⟩
  · cases h; exact ⟨Tryz.f17, i_chunk_width, Tryz.func17, ok_chunk_width⟩
  · cases h; exact ⟨Tryz.f32, i_tree_Digest, Tryz.func32, ok_tree_Digest⟩
  · cases h; exact ⟨Tryz.f18, i_tree_Check, Tryz.func18, ok_tree_Check⟩
  · cases h; exact ⟨Tryz.f35, i_tree_deep, Tryz.func35, ok_tree_deep⟩
  · cases h; exact ⟨Tryz.f54, i_tree_deep_1, Tryz.func54, ok_tree_deep_1⟩
  · cases h; exact ⟨Tryz.f37, i_slices_ContainsFunc_sl_api_Tree_api_Tree, Tryz.func37, ok_slices_ContainsFunc_sl_api_Tree_api_Tree⟩
  · cases h; exact ⟨Tryz.f56, i_slices_IndexFunc_sl_api_Tree_api_Tree, Tryz.func56, ok_slices_IndexFunc_sl_api_Tree_api_Tree⟩
  · cases h; exact ⟨Tryz.f36, i_tree_formed, Tryz.func36, ok_tree_formed⟩
  · cases h; exact ⟨Tryz.f55, i_tree_formed_1, Tryz.func55, ok_tree_formed_1⟩
  · cases h; exact ⟨Tryz.f52, i_tree_told, Tryz.func52, ok_tree_told⟩
  · cases h; exact ⟨Tryz.f68, i_digest_None, Tryz.func68, ok_digest_None⟩
  · cases h; exact ⟨Tryz.f67, i_digest_Of, Tryz.func67, ok_digest_Of⟩
  · cases h; exact ⟨Tryz.f78, i_digest_width, Tryz.func78, ok_digest_width⟩
  · cases h; exact ⟨Tryz.f79, i_sha_Sum, Tryz.func79, ok_sha_Sum⟩
  · cases h; exact ⟨Tryz.f85, i_sha_Tail, Tryz.func85, ok_sha_Tail⟩
  · cases h; exact ⟨Tryz.f86, i_sha_Step, Tryz.func86, ok_sha_Step⟩
  · cases h; exact ⟨Tryz.f91, i_sha_Words, Tryz.func91, ok_sha_Words⟩
  · cases h; exact ⟨Tryz.f94, i_math_bits_RotateLeft32, Tryz.func94, ok_math_bits_RotateLeft32⟩
  · cases h; exact ⟨Tryz.f92, i_sha_Round, Tryz.func92, ok_sha_Round⟩
  · cases h; exact ⟨Tryz.f69, i_slices_Clone_sl_byte_byte, Tryz.func69, ok_slices_Clone_sl_byte_byte⟩
  · cases h; exact ⟨Tryz.f70, i_digest_Value, Tryz.func70, ok_digest_Value⟩
  · cases h; exact ⟨Tryz.f71, i_digest_Pair, Tryz.func71, ok_digest_Pair⟩
  · cases h; exact ⟨Tryz.f81, i_coder_Bytes, Tryz.func81, ok_coder_Bytes⟩
  · cases h; exact ⟨Tryz.f88, i_coder_Number, Tryz.func88, ok_coder_Number⟩
  · cases h; exact ⟨Tryz.f80, i_slices_Concat_sl_byte_byte, Tryz.func80, ok_slices_Concat_sl_byte_byte⟩
  · cases h; exact ⟨Tryz.f87, i_slices_Grow_sl_byte_byte, Tryz.func87, ok_slices_Grow_sl_byte_byte⟩
  · cases h; exact ⟨Tryz.f72, i_tree_of, Tryz.func72, ok_tree_of⟩
  · cases h; exact ⟨Tryz.f73, i_digest_Node, Tryz.func73, ok_digest_Node⟩
  · cases h; exact ⟨Tryz.f33, i_tree_Full, Tryz.func33, ok_tree_Full⟩
  · cases h; exact ⟨Tryz.f53, i_tree_full, Tryz.func53, ok_tree_full⟩
  · cases h; exact ⟨Tryz.f74, i_tree_full_1, Tryz.func74, ok_tree_full_1⟩
  · cases h; exact ⟨Tryz.f34, i_chunk_Cut_1, Tryz.func34, ok_chunk_Cut_1⟩
  · cases h; exact ⟨Tryz.f7, i_chunk_Join, Tryz.func7, ok_chunk_Join⟩
  · cases h; exact ⟨Tryz.f19, i_chunk_cuts, Tryz.func19, ok_chunk_cuts⟩
  · cases h; exact ⟨Tryz.f20, i_chunk_dark, Tryz.func20, ok_chunk_dark⟩
  · cases h; exact ⟨Tryz.f21, i_chunk_Fits, Tryz.func21, ok_chunk_Fits⟩
  · cases h; exact ⟨Tryz.f38, i_bytes_Equal, Tryz.func38, ok_bytes_Equal⟩
  · cases h; exact ⟨Tryz.f22, i_chunk_Join_1, Tryz.func22, ok_chunk_Join_1⟩
  · cases h; exact ⟨Tryz.f15, i_chunk_Count, Tryz.func15, ok_chunk_Count⟩
  · cases h; exact ⟨Tryz.f5, i_law11_small, Tryz.func5, ok_law11_small⟩
  · cases h; exact ⟨Tryz.f16, i_ref04_Light, Tryz.func16, ok_ref04_Light⟩
  · cases h; exact ⟨Tryz.f6, i_law11_all, Tryz.func6, ok_law11_all⟩
  · cases h; exact ⟨Tryz.f9, i_ref01_Made, Tryz.func9, ok_ref01_Made⟩
  · cases h; exact ⟨Tryz.f28, i_ref01_root, Tryz.func28, ok_ref01_root⟩
  · cases h; exact ⟨Tryz.f43, i_ref01_below, Tryz.func43, ok_ref01_below⟩
  · cases h; exact ⟨Tryz.f61, i_ref01_times, Tryz.func61, ok_ref01_times⟩
  · cases h; exact ⟨Tryz.f8, i_ref11_Join, Tryz.func8, ok_ref11_Join⟩
  · cases h; exact ⟨Tryz.f23, i_ref04_Check, Tryz.func23, ok_ref04_Check⟩
  · cases h; exact ⟨Tryz.f39, i_ref04_Deep, Tryz.func39, ok_ref04_Deep⟩
  · cases h; exact ⟨Tryz.f40, i_ref04_Formed, Tryz.func40, ok_ref04_Formed⟩
  · cases h; exact ⟨Tryz.f24, i_ref11_Dark, Tryz.func24, ok_ref11_Dark⟩
  · cases h; exact ⟨Tryz.f25, i_ref11_Cuts, Tryz.func25, ok_ref11_Cuts⟩
  · cases h; exact ⟨Tryz.f26, i_ref11_Fits, Tryz.func26, ok_ref11_Fits⟩
  · cases h; exact ⟨Tryz.f41, i_ref04_Digest, Tryz.func41, ok_ref04_Digest⟩
  · cases h; exact ⟨Tryz.f57, i_ref03_Of, Tryz.func57, ok_ref03_Of⟩
  · cases h; exact ⟨Tryz.f75, i_ref01_Tables_Sum, Tryz.func75, ok_ref01_Tables_Sum⟩
  · cases h; exact ⟨Tryz.f82, i_ref01_Tail, Tryz.func82, ok_ref01_Tail⟩
  · cases h; exact ⟨Tryz.f83, i_ref01_Tables_Step, Tryz.func83, ok_ref01_Tables_Step⟩
  · cases h; exact ⟨Tryz.f89, i_ref01_Words, Tryz.func89, ok_ref01_Words⟩
  · cases h; exact ⟨Tryz.f93, i_ref01_turn, Tryz.func93, ok_ref01_turn⟩
  · cases h; exact ⟨Tryz.f90, i_ref01_Round, Tryz.func90, ok_ref01_Round⟩
  · cases h; exact ⟨Tryz.f58, i_ref03_Value, Tryz.func58, ok_ref03_Value⟩
  · cases h; exact ⟨Tryz.f59, i_ref03_Pair, Tryz.func59, ok_ref03_Pair⟩
  · cases h; exact ⟨Tryz.f76, i_ref02_Bytes, Tryz.func76, ok_ref02_Bytes⟩
  · cases h; exact ⟨Tryz.f84, i_ref02_Number, Tryz.func84, ok_ref02_Number⟩
  · cases h; exact ⟨Tryz.f60, i_ref03_Node, Tryz.func60, ok_ref03_Node⟩
  · cases h; exact ⟨Tryz.f42, i_ref04_Full, Tryz.func42, ok_ref04_Full⟩
  · cases h; exact ⟨Tryz.f27, i_ref11_fill, Tryz.func27, ok_ref11_fill⟩
  · cases h; exact ⟨Tryz.f10, i_law00_Is, Tryz.func10, ok_law00_Is⟩
  · cases h; exact ⟨Tryz.f11, i_ref04_Same, Tryz.func11, ok_ref04_Same⟩
  · cases h; exact ⟨Tryz.f12, i_law00_Code, Tryz.func12, ok_law00_Code⟩
  · cases h
end Go.Proofs.YtdngljdbgepaiaaGreatDoor
