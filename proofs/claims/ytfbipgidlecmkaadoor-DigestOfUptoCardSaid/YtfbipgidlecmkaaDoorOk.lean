/- The IR is the program's. -/
import Derived.Test.YtfbipgidlecmkaaDoorIr
import Derived.Test.YtfbipgidlecmkaaDoorChecked
set_option linter.unusedVariables false
namespace Go.Proofs.YtfbipgidlecmkaaDoor
open Go.Ev

theorem ok_law01_ShaSteps : trFn Tryd.prog Tryd.f3 i_law01_ShaSteps = some i_law01_ShaSteps := by kernel_rfl
theorem ok_ref01_Made : trFn Tryd.prog Tryd.f9 i_ref01_Made = some i_ref01_Made := by kernel_rfl
theorem ok_ref01_root : trFn Tryd.prog Tryd.f24 i_ref01_root = some i_ref01_root := by kernel_rfl
theorem ok_ref01_below : trFn Tryd.prog Tryd.f35 i_ref01_below = some i_ref01_below := by kernel_rfl
theorem ok_ref01_times : trFn Tryd.prog Tryd.f39 i_ref01_times = some i_ref01_times := by kernel_rfl
theorem ok_sha_Step : trFn Tryd.prog Tryd.f10 i_sha_Step = some i_sha_Step := by kernel_rfl
theorem ok_sha_Words : trFn Tryd.prog Tryd.f15 i_sha_Words = some i_sha_Words := by kernel_rfl
theorem ok_math_bits_RotateLeft32 : trFn Tryd.prog Tryd.f29 i_math_bits_RotateLeft32 = some i_math_bits_RotateLeft32 := by kernel_rfl
theorem ok_sha_Round : trFn Tryd.prog Tryd.f25 i_sha_Round = some i_sha_Round := by kernel_rfl
theorem ok_sha_First : trFn Tryd.prog Tryd.f11 i_sha_First = some i_sha_First := by kernel_rfl
theorem ok_ref01_Tables_Step : trFn Tryd.prog Tryd.f12 i_ref01_Tables_Step = some i_ref01_Tables_Step := by kernel_rfl
theorem ok_ref01_Words : trFn Tryd.prog Tryd.f26 i_ref01_Words = some i_ref01_Words := by kernel_rfl
theorem ok_ref01_turn : trFn Tryd.prog Tryd.f36 i_ref01_turn = some i_ref01_turn := by kernel_rfl
theorem ok_ref01_Round : trFn Tryd.prog Tryd.f27 i_ref01_Round = some i_ref01_Round := by kernel_rfl
theorem ok_law01_ShaSums : trFn Tryd.prog Tryd.f4 i_law01_ShaSums = some i_law01_ShaSums := by kernel_rfl
theorem ok_sha_Sum : trFn Tryd.prog Tryd.f13 i_sha_Sum = some i_sha_Sum := by kernel_rfl
theorem ok_sha_Tail : trFn Tryd.prog Tryd.f16 i_sha_Tail = some i_sha_Tail := by kernel_rfl
theorem ok_ref01_Tables_Sum : trFn Tryd.prog Tryd.f14 i_ref01_Tables_Sum = some i_ref01_Tables_Sum := by kernel_rfl
theorem ok_ref01_Tail : trFn Tryd.prog Tryd.f28 i_ref01_Tail = some i_ref01_Tail := by kernel_rfl
theorem ok_law01_ShaStays : trFn Tryd.prog Tryd.f5 i_law01_ShaStays = some i_law01_ShaStays := by kernel_rfl
theorem ok_law01_ShaGoes : trFn Tryd.prog Tryd.f6 i_law01_ShaGoes = some i_law01_ShaGoes := by kernel_rfl
theorem ok_law03_DigestOf : trFn Tryd.prog Tryd.f7 i_law03_DigestOf = some i_law03_DigestOf := by kernel_rfl
theorem ok_law03_up : trFn Tryd.prog Tryd.f17 i_law03_up = some i_law03_up := by kernel_rfl
theorem ok_digest_Pair : trFn Tryd.prog Tryd.f22 i_digest_Pair = some i_digest_Pair := by kernel_rfl
theorem ok_digest_width : trFn Tryd.prog Tryd.f31 i_digest_width = some i_digest_width := by kernel_rfl
theorem ok_coder_Bytes : trFn Tryd.prog Tryd.f34 i_coder_Bytes = some i_coder_Bytes := by kernel_rfl
theorem ok_coder_Number : trFn Tryd.prog Tryd.f38 i_coder_Number = some i_coder_Number := by kernel_rfl
theorem ok_slices_Concat_sl_byte_byte : trFn Tryd.prog Tryd.f33 i_slices_Concat_sl_byte_byte = some i_slices_Concat_sl_byte_byte := by kernel_rfl
theorem ok_slices_Grow_sl_byte_byte : trFn Tryd.prog Tryd.f37 i_slices_Grow_sl_byte_byte = some i_slices_Grow_sl_byte_byte := by kernel_rfl
theorem ok_digest_None : trFn Tryd.prog Tryd.f30 i_digest_None = some i_digest_None := by kernel_rfl
theorem ok_digest_Of : trFn Tryd.prog Tryd.f18 i_digest_Of = some i_digest_Of := by kernel_rfl
theorem ok_slices_Clone_sl_byte_byte : trFn Tryd.prog Tryd.f32 i_slices_Clone_sl_byte_byte = some i_slices_Clone_sl_byte_byte := by kernel_rfl
theorem ok_law03_may : trFn Tryd.prog Tryd.f19 i_law03_may = some i_law03_may := by kernel_rfl
theorem ok_ref03_Of : trFn Tryd.prog Tryd.f20 i_ref03_Of = some i_ref03_Of := by kernel_rfl
theorem ok_law03_DigestStays : trFn Tryd.prog Tryd.f8 i_law03_DigestStays = some i_law03_DigestStays := by kernel_rfl
theorem ok_digest_Value : trFn Tryd.prog Tryd.f21 i_digest_Value = some i_digest_Value := by kernel_rfl
theorem ok_digest_Node : trFn Tryd.prog Tryd.f23 i_digest_Node = some i_digest_Node := by kernel_rfl
theorem tabOk : TabOk Tryd.prog tab := fun f fn h => by
  unfold tab at h
  split at h
  · cases h; exact ⟨Tryd.f3, i_law01_ShaSteps, Tryd.func3, ok_law01_ShaSteps⟩
  · cases h; exact ⟨Tryd.f9, i_ref01_Made, Tryd.func9, ok_ref01_Made⟩
  · cases h; exact ⟨Tryd.f24, i_ref01_root, Tryd.func24, ok_ref01_root⟩
  · cases h; exact ⟨Tryd.f35, i_ref01_below, Tryd.func35, ok_ref01_below⟩
  · cases h; exact ⟨Tryd.f39, i_ref01_times, Tryd.func39, ok_ref01_times⟩
  · cases h; exact ⟨Tryd.f10, i_sha_Step, Tryd.func10, ok_sha_Step⟩
  · cases h; exact ⟨Tryd.f15, i_sha_Words, Tryd.func15, ok_sha_Words⟩
  · cases h; exact ⟨Tryd.f29, i_math_bits_RotateLeft32, Tryd.func29, ok_math_bits_RotateLeft32⟩
  · cases h; exact ⟨Tryd.f25, i_sha_Round, Tryd.func25, ok_sha_Round⟩
  · cases h; exact ⟨Tryd.f11, i_sha_First, Tryd.func11, ok_sha_First⟩
  · cases h; exact ⟨Tryd.f12, i_ref01_Tables_Step, Tryd.func12, ok_ref01_Tables_Step⟩
  · cases h; exact ⟨Tryd.f26, i_ref01_Words, Tryd.func26, ok_ref01_Words⟩
  · cases h; exact ⟨Tryd.f36, i_ref01_turn, Tryd.func36, ok_ref01_turn⟩
  · cases h; exact ⟨Tryd.f27, i_ref01_Round, Tryd.func27, ok_ref01_Round⟩
  · cases h; exact ⟨Tryd.f4, i_law01_ShaSums, Tryd.func4, ok_law01_ShaSums⟩
  · cases h; exact ⟨Tryd.f13, i_sha_Sum, Tryd.func13, ok_sha_Sum⟩
  · cases h; exact ⟨Tryd.f16, i_sha_Tail, Tryd.func16, ok_sha_Tail⟩
  · cases h; exact ⟨Tryd.f14, i_ref01_Tables_Sum, Tryd.func14, ok_ref01_Tables_Sum⟩
  · cases h; exact ⟨Tryd.f28, i_ref01_Tail, Tryd.func28, ok_ref01_Tail⟩
  · cases h; exact ⟨Tryd.f5, i_law01_ShaStays, Tryd.func5, ok_law01_ShaStays⟩
  · cases h; exact ⟨Tryd.f6, i_law01_ShaGoes, Tryd.func6, ok_law01_ShaGoes⟩
  · cases h; exact ⟨Tryd.f7, i_law03_DigestOf, Tryd.func7, ok_law03_DigestOf⟩
  · cases h; exact ⟨Tryd.f17, i_law03_up, Tryd.func17, ok_law03_up⟩
  · cases h; exact ⟨Tryd.f22, i_digest_Pair, Tryd.func22, ok_digest_Pair⟩
  · cases h; exact ⟨Tryd.f31, i_digest_width, Tryd.func31, ok_digest_width⟩
  · cases h; exact ⟨Tryd.f34, i_coder_Bytes, Tryd.func34, ok_coder_Bytes⟩
  · cases h; exact ⟨Tryd.f38, i_coder_Number, Tryd.func38, ok_coder_Number⟩
  · cases h; exact ⟨Tryd.f33, i_slices_Concat_sl_byte_byte, Tryd.func33, ok_slices_Concat_sl_byte_byte⟩
  · cases h; exact ⟨Tryd.f37, i_slices_Grow_sl_byte_byte, Tryd.func37, ok_slices_Grow_sl_byte_byte⟩
  · cases h; exact ⟨Tryd.f30, i_digest_None, Tryd.func30, ok_digest_None⟩
  · cases h; exact ⟨Tryd.f18, i_digest_Of, Tryd.func18, ok_digest_Of⟩
  · cases h; exact ⟨Tryd.f32, i_slices_Clone_sl_byte_byte, Tryd.func32, ok_slices_Clone_sl_byte_byte⟩
  · cases h; exact ⟨Tryd.f19, i_law03_may, Tryd.func19, ok_law03_may⟩
  · cases h; exact ⟨Tryd.f20, i_ref03_Of, Tryd.func20, ok_ref03_Of⟩
  · cases h; exact ⟨Tryd.f8, i_law03_DigestStays, Tryd.func8, ok_law03_DigestStays⟩
  · cases h; exact ⟨Tryd.f21, i_digest_Value, Tryd.func21, ok_digest_Value⟩
  · cases h; exact ⟨Tryd.f23, i_digest_Node, Tryd.func23, ok_digest_Node⟩
  · cases h
end Go.Proofs.YtfbipgidlecmkaaDoor
