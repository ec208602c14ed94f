/- The IR is the program's. -/
import Derived.Test.YtebiajdkgpcidaaDoorIr
import Derived.Test.YtebiajdkgpcidaaDoorChecked
set_option linter.unusedVariables false
namespace Go.Proofs.YtebiajdkgpcidaaDoor
open Go.Ev

theorem ok_law11_ChunkBack : trFn Tryd.prog Tryd.f9 i_law11_ChunkBack = some i_law11_ChunkBack := by kernel_rfl
theorem ok_law11_up : trFn Tryd.prog Tryd.f25 i_law11_up = some i_law11_up := by kernel_rfl
theorem ok_ref05_Grown : trFn Tryd.prog Tryd.f35 i_ref05_Grown = some i_ref05_Grown := by kernel_rfl
theorem ok_ref05_Put : trFn Tryd.prog Tryd.f56 i_ref05_Put = some i_ref05_Put := by kernel_rfl
theorem ok_ref05_Node : trFn Tryd.prog Tryd.f74 i_ref05_Node = some i_ref05_Node := by kernel_rfl
theorem ok_ref05_level : trFn Tryd.prog Tryd.f75 i_ref05_level = some i_ref05_level := by kernel_rfl
theorem ok_ref05_tilt : trFn Tryd.prog Tryd.f86 i_ref05_tilt = some i_ref05_tilt := by kernel_rfl
theorem ok_ref04_Depth : trFn Tryd.prog Tryd.f94 i_ref04_Depth = some i_ref04_Depth := by kernel_rfl
theorem ok_ref05_left : trFn Tryd.prog Tryd.f87 i_ref05_left = some i_ref05_left := by kernel_rfl
theorem ok_ref05_right : trFn Tryd.prog Tryd.f88 i_ref05_right = some i_ref05_right := by kernel_rfl
theorem ok_chunk_Cut : trFn Tryd.prog Tryd.f27 i_chunk_Cut = some i_chunk_Cut := by kernel_rfl
theorem ok_chunk_width : trFn Tryd.prog Tryd.f52 i_chunk_width = some i_chunk_width := by kernel_rfl
theorem ok_tree_Digest : trFn Tryd.prog Tryd.f14 i_tree_Digest = some i_tree_Digest := by kernel_rfl
theorem ok_tree_Check : trFn Tryd.prog Tryd.f24 i_tree_Check = some i_tree_Check := by kernel_rfl
theorem ok_tree_deep : trFn Tryd.prog Tryd.f50 i_tree_deep = some i_tree_deep := by kernel_rfl
theorem ok_tree_deep_1 : trFn Tryd.prog Tryd.f72 i_tree_deep_1 = some i_tree_deep_1 := by kernel_rfl
theorem ok_slices_ContainsFunc_sl_api_Tree_api_Tree : trFn Tryd.prog Tryd.f71 i_slices_ContainsFunc_sl_api_Tree_api_Tree = some i_slices_ContainsFunc_sl_api_Tree_api_Tree := by kernel_rfl
theorem ok_slices_IndexFunc_sl_api_Tree_api_Tree : trFn Tryd.prog Tryd.f85 i_slices_IndexFunc_sl_api_Tree_api_Tree = some i_slices_IndexFunc_sl_api_Tree_api_Tree := by kernel_rfl
theorem ok_tree_formed : trFn Tryd.prog Tryd.f51 i_tree_formed = some i_tree_formed := by kernel_rfl
theorem ok_tree_formed_1 : trFn Tryd.prog Tryd.f73 i_tree_formed_1 = some i_tree_formed_1 := by kernel_rfl
theorem ok_tree_told : trFn Tryd.prog Tryd.f40 i_tree_told = some i_tree_told := by kernel_rfl
theorem ok_digest_None : trFn Tryd.prog Tryd.f61 i_digest_None = some i_digest_None := by kernel_rfl
theorem ok_digest_Of : trFn Tryd.prog Tryd.f60 i_digest_Of = some i_digest_Of := by kernel_rfl
theorem ok_digest_width : trFn Tryd.prog Tryd.f77 i_digest_width = some i_digest_width := by kernel_rfl
theorem ok_sha_Sum : trFn Tryd.prog Tryd.f78 i_sha_Sum = some i_sha_Sum := by kernel_rfl
theorem ok_sha_Tail : trFn Tryd.prog Tryd.f89 i_sha_Tail = some i_sha_Tail := by kernel_rfl
theorem ok_sha_Step : trFn Tryd.prog Tryd.f90 i_sha_Step = some i_sha_Step := by kernel_rfl
theorem ok_sha_Words : trFn Tryd.prog Tryd.f95 i_sha_Words = some i_sha_Words := by kernel_rfl
theorem ok_math_bits_RotateLeft32 : trFn Tryd.prog Tryd.f97 i_math_bits_RotateLeft32 = some i_math_bits_RotateLeft32 := by kernel_rfl
theorem ok_sha_Round : trFn Tryd.prog Tryd.f96 i_sha_Round = some i_sha_Round := by kernel_rfl
theorem ok_slices_Clone_sl_byte_byte : trFn Tryd.prog Tryd.f62 i_slices_Clone_sl_byte_byte = some i_slices_Clone_sl_byte_byte := by kernel_rfl
theorem ok_digest_Value : trFn Tryd.prog Tryd.f63 i_digest_Value = some i_digest_Value := by kernel_rfl
theorem ok_digest_Pair : trFn Tryd.prog Tryd.f64 i_digest_Pair = some i_digest_Pair := by kernel_rfl
theorem ok_coder_Bytes : trFn Tryd.prog Tryd.f80 i_coder_Bytes = some i_coder_Bytes := by kernel_rfl
theorem ok_coder_Number : trFn Tryd.prog Tryd.f92 i_coder_Number = some i_coder_Number := by kernel_rfl
theorem ok_slices_Concat_sl_byte_byte : trFn Tryd.prog Tryd.f79 i_slices_Concat_sl_byte_byte = some i_slices_Concat_sl_byte_byte := by kernel_rfl
theorem ok_slices_Grow_sl_byte_byte : trFn Tryd.prog Tryd.f91 i_slices_Grow_sl_byte_byte = some i_slices_Grow_sl_byte_byte := by kernel_rfl
theorem ok_tree_of : trFn Tryd.prog Tryd.f65 i_tree_of = some i_tree_of := by kernel_rfl
theorem ok_digest_Node : trFn Tryd.prog Tryd.f66 i_digest_Node = some i_digest_Node := by kernel_rfl
theorem ok_tree_Full : trFn Tryd.prog Tryd.f38 i_tree_Full = some i_tree_Full := by kernel_rfl
theorem ok_tree_full : trFn Tryd.prog Tryd.f59 i_tree_full = some i_tree_full := by kernel_rfl
theorem ok_tree_full_1 : trFn Tryd.prog Tryd.f76 i_tree_full_1 = some i_tree_full_1 := by kernel_rfl
theorem ok_chunk_Cut_1 : trFn Tryd.prog Tryd.f53 i_chunk_Cut_1 = some i_chunk_Cut_1 := by kernel_rfl
theorem ok_chunk_Join : trFn Tryd.prog Tryd.f36 i_chunk_Join = some i_chunk_Join := by kernel_rfl
theorem ok_chunk_cuts : trFn Tryd.prog Tryd.f54 i_chunk_cuts = some i_chunk_cuts := by kernel_rfl
theorem ok_chunk_dark : trFn Tryd.prog Tryd.f57 i_chunk_dark = some i_chunk_dark := by kernel_rfl
theorem ok_chunk_Fits : trFn Tryd.prog Tryd.f33 i_chunk_Fits = some i_chunk_Fits := by kernel_rfl
theorem ok_bytes_Equal : trFn Tryd.prog Tryd.f55 i_bytes_Equal = some i_bytes_Equal := by kernel_rfl
theorem ok_chunk_Join_1 : trFn Tryd.prog Tryd.f58 i_chunk_Join_1 = some i_chunk_Join_1 := by kernel_rfl
theorem ok_chunk_Count : trFn Tryd.prog Tryd.f29 i_chunk_Count = some i_chunk_Count := by kernel_rfl
theorem ok_ref04_Same : trFn Tryd.prog Tryd.f22 i_ref04_Same = some i_ref04_Same := by kernel_rfl
theorem ok_law11_ChunkRoots : trFn Tryd.prog Tryd.f10 i_law11_ChunkRoots = some i_law11_ChunkRoots := by kernel_rfl
theorem ok_law11_small : trFn Tryd.prog Tryd.f26 i_law11_small = some i_law11_small := by kernel_rfl
theorem ok_ref04_Light : trFn Tryd.prog Tryd.f39 i_ref04_Light = some i_ref04_Light := by kernel_rfl
theorem ok_law11_all : trFn Tryd.prog Tryd.f37 i_law11_all = some i_law11_all := by kernel_rfl
theorem ok_law11_ChunkStays : trFn Tryd.prog Tryd.f11 i_law11_ChunkStays = some i_law11_ChunkStays := by kernel_rfl
theorem ok_ref04_Copy : trFn Tryd.prog Tryd.f23 i_ref04_Copy = some i_ref04_Copy := by kernel_rfl
theorem tabOk : TabOk Tryd.prog tab := fun f fn h => by
  unfold tab at h
  split at h
  · cases h; exact ⟨Tryd.f9, i_law11_ChunkBack, Tryd.func9, ok_law11_ChunkBack⟩
  · cases h; exact ⟨Tryd.f25, i_law11_up, Tryd.func25, ok_law11_up⟩
  · cases h; exact ⟨Tryd.f35, i_ref05_Grown, Tryd.func35, ok_ref05_Grown⟩
  · cases h; exact ⟨Tryd.f56, i_ref05_Put, Tryd.func56, ok_ref05_Put⟩
  · cases h; exact ⟨Tryd.f74, i_ref05_Node, Tryd.func74, ok_ref05_Node⟩
  · cases h; exact ⟨Tryd.f75, i_ref05_level, Tryd.func75, ok_ref05_level⟩
  · cases h; exact ⟨Tryd.f86, i_ref05_tilt, Tryd.func86, ok_ref05_tilt⟩
  · cases h; exact ⟨Tryd.f94, i_ref04_Depth, Tryd.func94, ok_ref04_Depth⟩
  · cases h; exact ⟨Tryd.f87, i_ref05_left, Tryd.func87, ok_ref05_left⟩
  · cases h; exact ⟨Tryd.f88, i_ref05_right, Tryd.func88, ok_ref05_right⟩
  · cases h; exact ⟨Tryd.f27, i_chunk_Cut, Tryd.func27, ok_chunk_Cut⟩
  · cases h; exact ⟨Tryd.f52, i_chunk_width, Tryd.func52, ok_chunk_width⟩
  · cases h; exact ⟨Tryd.f14, i_tree_Digest, Tryd.func14, ok_tree_Digest⟩
  · cases h; exact ⟨Tryd.f24, i_tree_Check, Tryd.func24, ok_tree_Check⟩
  · cases h; exact ⟨Tryd.f50, i_tree_deep, Tryd.func50, ok_tree_deep⟩
  · cases h; exact ⟨Tryd.f72, i_tree_deep_1, Tryd.func72, ok_tree_deep_1⟩
  · cases h; exact ⟨Tryd.f71, i_slices_ContainsFunc_sl_api_Tree_api_Tree, Tryd.func71, ok_slices_ContainsFunc_sl_api_Tree_api_Tree⟩
  · cases h; exact ⟨Tryd.f85, i_slices_IndexFunc_sl_api_Tree_api_Tree, Tryd.func85, ok_slices_IndexFunc_sl_api_Tree_api_Tree⟩
  · cases h; exact ⟨Tryd.f51, i_tree_formed, Tryd.func51, ok_tree_formed⟩
  · cases h; exact ⟨Tryd.f73, i_tree_formed_1, Tryd.func73, ok_tree_formed_1⟩
  · cases h; exact ⟨Tryd.f40, i_tree_told, Tryd.func40, ok_tree_told⟩
  · cases h; exact ⟨Tryd.f61, i_digest_None, Tryd.func61, ok_digest_None⟩
  · cases h; exact ⟨Tryd.f60, i_digest_Of, Tryd.func60, ok_digest_Of⟩
  · cases h; exact ⟨Tryd.f77, i_digest_width, Tryd.func77, ok_digest_width⟩
  · cases h; exact ⟨Tryd.f78, i_sha_Sum, Tryd.func78, ok_sha_Sum⟩
  · cases h; exact ⟨Tryd.f89, i_sha_Tail, Tryd.func89, ok_sha_Tail⟩
  · cases h; exact ⟨Tryd.f90, i_sha_Step, Tryd.func90, ok_sha_Step⟩
  · cases h; exact ⟨Tryd.f95, i_sha_Words, Tryd.func95, ok_sha_Words⟩
  · cases h; exact ⟨Tryd.f97, i_math_bits_RotateLeft32, Tryd.func97, ok_math_bits_RotateLeft32⟩
  · cases h; exact ⟨Tryd.f96, i_sha_Round, Tryd.func96, ok_sha_Round⟩
  · cases h; exact ⟨Tryd.f62, i_slices_Clone_sl_byte_byte, Tryd.func62, ok_slices_Clone_sl_byte_byte⟩
  · cases h; exact ⟨Tryd.f63, i_digest_Value, Tryd.func63, ok_digest_Value⟩
  · cases h; exact ⟨Tryd.f64, i_digest_Pair, Tryd.func64, ok_digest_Pair⟩
  · cases h; exact ⟨Tryd.f80, i_coder_Bytes, Tryd.func80, ok_coder_Bytes⟩
  · cases h; exact ⟨Tryd.f92, i_coder_Number, Tryd.func92, ok_coder_Number⟩
  · cases h; exact ⟨Tryd.f79, i_slices_Concat_sl_byte_byte, Tryd.func79, ok_slices_Concat_sl_byte_byte⟩
  · cases h; exact ⟨Tryd.f91, i_slices_Grow_sl_byte_byte, Tryd.func91, ok_slices_Grow_sl_byte_byte⟩
  · cases h; exact ⟨Tryd.f65, i_tree_of, Tryd.func65, ok_tree_of⟩
  · cases h; exact ⟨Tryd.f66, i_digest_Node, Tryd.func66, ok_digest_Node⟩
  · cases h; exact ⟨Tryd.f38, i_tree_Full, Tryd.func38, ok_tree_Full⟩
  · cases h; exact ⟨Tryd.f59, i_tree_full, Tryd.func59, ok_tree_full⟩
  · cases h; exact ⟨Tryd.f76, i_tree_full_1, Tryd.func76, ok_tree_full_1⟩
  · cases h; exact ⟨Tryd.f53, i_chunk_Cut_1, Tryd.func53, ok_chunk_Cut_1⟩
  · cases h; exact ⟨Tryd.f36, i_chunk_Join, Tryd.func36, ok_chunk_Join⟩
  · cases h; exact ⟨Tryd.f54, i_chunk_cuts, Tryd.func54, ok_chunk_cuts⟩
  · cases h; exact ⟨Tryd.f57, i_chunk_dark, Tryd.func57, ok_chunk_dark⟩
  · cases h; exact ⟨Tryd.f33, i_chunk_Fits, Tryd.func33, ok_chunk_Fits⟩
  · cases h; exact ⟨Tryd.f55, i_bytes_Equal, Tryd.func55, ok_bytes_Equal⟩
  · cases h; exact ⟨Tryd.f58, i_chunk_Join_1, Tryd.func58, ok_chunk_Join_1⟩
  · cases h; exact ⟨Tryd.f29, i_chunk_Count, Tryd.func29, ok_chunk_Count⟩
  · cases h; exact ⟨Tryd.f22, i_ref04_Same, Tryd.func22, ok_ref04_Same⟩
  · cases h; exact ⟨Tryd.f10, i_law11_ChunkRoots, Tryd.func10, ok_law11_ChunkRoots⟩
  · cases h; exact ⟨Tryd.f26, i_law11_small, Tryd.func26, ok_law11_small⟩
  · cases h; exact ⟨Tryd.f39, i_ref04_Light, Tryd.func39, ok_ref04_Light⟩
  · cases h; exact ⟨Tryd.f37, i_law11_all, Tryd.func37, ok_law11_all⟩
  · cases h; exact ⟨Tryd.f11, i_law11_ChunkStays, Tryd.func11, ok_law11_ChunkStays⟩
  · cases h; exact ⟨Tryd.f23, i_ref04_Copy, Tryd.func23, ok_ref04_Copy⟩
  · cases h
end Go.Proofs.YtebiajdkgpcidaaDoor
