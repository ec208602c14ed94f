/- The IR is the program's. -/
import Derived.Test.YthaegfemlhibfaaDoorIr
import Derived.Test.YthaegfemlhibfaaDoorChecked
set_option linter.unusedVariables false
namespace Go.Proofs.YthaegfemlhibfaaDoor
open Go.Ev

theorem ok_law03_DigestStays : trFn Tryd.prog Tryd.f4 i_law03_DigestStays = some i_law03_DigestStays := by kernel_rfl
theorem ok_law03_up : trFn Tryd.prog Tryd.f7 i_law03_up = some i_law03_up := by kernel_rfl
theorem ok_digest_Pair : trFn Tryd.prog Tryd.f10 i_digest_Pair = some i_digest_Pair := by kernel_rfl
theorem ok_digest_width : trFn Tryd.prog Tryd.f16 i_digest_width = some i_digest_width := by kernel_rfl
theorem ok_coder_Bytes : trFn Tryd.prog Tryd.f19 i_coder_Bytes = some i_coder_Bytes := by kernel_rfl
theorem ok_coder_Number : trFn Tryd.prog Tryd.f22 i_coder_Number = some i_coder_Number := by kernel_rfl
theorem ok_slices_Concat_sl_byte_byte : trFn Tryd.prog Tryd.f18 i_slices_Concat_sl_byte_byte = some i_slices_Concat_sl_byte_byte := by kernel_rfl
theorem ok_slices_Grow_sl_byte_byte : trFn Tryd.prog Tryd.f21 i_slices_Grow_sl_byte_byte = some i_slices_Grow_sl_byte_byte := by kernel_rfl
theorem ok_digest_None : trFn Tryd.prog Tryd.f15 i_digest_None = some i_digest_None := by kernel_rfl
theorem ok_digest_Value : trFn Tryd.prog Tryd.f8 i_digest_Value = some i_digest_Value := by kernel_rfl
theorem ok_digest_Of : trFn Tryd.prog Tryd.f9 i_digest_Of = some i_digest_Of := by kernel_rfl
theorem ok_sha_Sum : trFn Tryd.prog Tryd.f5 i_sha_Sum = some i_sha_Sum := by kernel_rfl
theorem ok_sha_Tail : trFn Tryd.prog Tryd.f12 i_sha_Tail = some i_sha_Tail := by kernel_rfl
theorem ok_sha_Step : trFn Tryd.prog Tryd.f13 i_sha_Step = some i_sha_Step := by kernel_rfl
theorem ok_sha_Words : trFn Tryd.prog Tryd.f6 i_sha_Words = some i_sha_Words := by kernel_rfl
theorem ok_math_bits_RotateLeft32 : trFn Tryd.prog Tryd.f14 i_math_bits_RotateLeft32 = some i_math_bits_RotateLeft32 := by kernel_rfl
theorem ok_sha_Round : trFn Tryd.prog Tryd.f20 i_sha_Round = some i_sha_Round := by kernel_rfl
theorem ok_slices_Clone_sl_byte_byte : trFn Tryd.prog Tryd.f17 i_slices_Clone_sl_byte_byte = some i_slices_Clone_sl_byte_byte := by kernel_rfl
theorem ok_digest_Node : trFn Tryd.prog Tryd.f11 i_digest_Node = some i_digest_Node := by kernel_rfl
theorem tabOk : TabOk Tryd.prog tab := fun f fn h => by
  unfold tab at h
  split at h
  · cases h; exact ⟨Tryd.f4, i_law03_DigestStays, Tryd.func4, ok_law03_DigestStays⟩
  · cases h; exact ⟨Tryd.f7, i_law03_up, Tryd.func7, ok_law03_up⟩
  · cases h; exact ⟨Tryd.f10, i_digest_Pair, Tryd.func10, ok_digest_Pair⟩
  · cases h; exact ⟨Tryd.f16, i_digest_width, Tryd.func16, ok_digest_width⟩
  · cases h; exact ⟨Tryd.f19, i_coder_Bytes, Tryd.func19, ok_coder_Bytes⟩
  · cases h; exact ⟨Tryd.f22, i_coder_Number, Tryd.func22, ok_coder_Number⟩
  · cases h; exact ⟨Tryd.f18, i_slices_Concat_sl_byte_byte, Tryd.func18, ok_slices_Concat_sl_byte_byte⟩
  · cases h; exact ⟨Tryd.f21, i_slices_Grow_sl_byte_byte, Tryd.func21, ok_slices_Grow_sl_byte_byte⟩
  · cases h; exact ⟨Tryd.f15, i_digest_None, Tryd.func15, ok_digest_None⟩
  · cases h; exact ⟨Tryd.f8, i_digest_Value, Tryd.func8, ok_digest_Value⟩
  · cases h; exact ⟨Tryd.f9, i_digest_Of, Tryd.func9, ok_digest_Of⟩
  · cases h; exact ⟨Tryd.f5, i_sha_Sum, Tryd.func5, ok_sha_Sum⟩
  · cases h; exact ⟨Tryd.f12, i_sha_Tail, Tryd.func12, ok_sha_Tail⟩
  · cases h; exact ⟨Tryd.f13, i_sha_Step, Tryd.func13, ok_sha_Step⟩
  · cases h; exact ⟨Tryd.f6, i_sha_Words, Tryd.func6, ok_sha_Words⟩
  · cases h; exact ⟨Tryd.f14, i_math_bits_RotateLeft32, Tryd.func14, ok_math_bits_RotateLeft32⟩
  · cases h; exact ⟨Tryd.f20, i_sha_Round, Tryd.func20, ok_sha_Round⟩
  · cases h; exact ⟨Tryd.f17, i_slices_Clone_sl_byte_byte, Tryd.func17, ok_slices_Clone_sl_byte_byte⟩
  · cases h; exact ⟨Tryd.f11, i_digest_Node, Tryd.func11, ok_digest_Node⟩
  · cases h
end Go.Proofs.YthaegfemlhibfaaDoor
