/- The IR is the program's. -/
import Derived.Test.YtfbipgidlecmkaaIr
import Derived.Test.YtfbipgidlecmkaaChecked
set_option linter.unusedVariables false
namespace Go.Proofs.Ytfbipgidlecmkaa
open Go.Ev

theorem ok_law01_ShaRounds : trFn Try.prog Try.f3 i_law01_ShaRounds = some i_law01_ShaRounds := by kernel_rfl
theorem ok_sha_Round : trFn Try.prog Try.f14 i_sha_Round = some i_sha_Round := by kernel_rfl
theorem ok_math_bits_RotateLeft32 : trFn Try.prog Try.f44 i_math_bits_RotateLeft32 = some i_math_bits_RotateLeft32 := by kernel_rfl
theorem ok_ref01_Round : trFn Try.prog Try.f15 i_ref01_Round = some i_ref01_Round := by kernel_rfl
theorem ok_ref01_turn : trFn Try.prog Try.f45 i_ref01_turn = some i_ref01_turn := by kernel_rfl
theorem ok_law01_ShaTails : trFn Try.prog Try.f4 i_law01_ShaTails = some i_law01_ShaTails := by kernel_rfl
theorem ok_sha_Tail : trFn Try.prog Try.f16 i_sha_Tail = some i_sha_Tail := by kernel_rfl
theorem ok_ref01_Tail : trFn Try.prog Try.f17 i_ref01_Tail = some i_ref01_Tail := by kernel_rfl
theorem ok_law02_CoderNumbers : trFn Try.prog Try.f5 i_law02_CoderNumbers = some i_law02_CoderNumbers := by kernel_rfl
theorem ok_coder_Number : trFn Try.prog Try.f18 i_coder_Number = some i_coder_Number := by kernel_rfl
theorem ok_ref02_Number : trFn Try.prog Try.f19 i_ref02_Number = some i_ref02_Number := by kernel_rfl
theorem ok_law02_CoderBytes : trFn Try.prog Try.f6 i_law02_CoderBytes = some i_law02_CoderBytes := by kernel_rfl
theorem ok_coder_Bytes : trFn Try.prog Try.f20 i_coder_Bytes = some i_coder_Bytes := by kernel_rfl
theorem ok_ref02_Bytes : trFn Try.prog Try.f21 i_ref02_Bytes = some i_ref02_Bytes := by kernel_rfl
theorem ok_law01_ShaWords : trFn Try.prog Try.f7 i_law01_ShaWords = some i_law01_ShaWords := by kernel_rfl
theorem ok_sha_Words : trFn Try.prog Try.f22 i_sha_Words = some i_sha_Words := by kernel_rfl
theorem ok_ref01_Words : trFn Try.prog Try.f23 i_ref01_Words = some i_ref01_Words := by kernel_rfl
theorem ok_law02_CoderApart : trFn Try.prog Try.f8 i_law02_CoderApart = some i_law02_CoderApart := by kernel_rfl
theorem ok_coder_NewReader : trFn Try.prog Try.f24 i_coder_NewReader = some i_coder_NewReader := by kernel_rfl
theorem ok_slices_Clone_sl_byte_byte : trFn Try.prog Try.f46 i_slices_Clone_sl_byte_byte = some i_slices_Clone_sl_byte_byte := by kernel_rfl
theorem ok_coder_Reader_Number : trFn Try.prog Try.f25 i_coder_Reader_Number = some i_coder_Reader_Number := by kernel_rfl
theorem ok_coder_Reader_Byte : trFn Try.prog Try.f38 i_coder_Reader_Byte = some i_coder_Reader_Byte := by kernel_rfl
theorem ok_coder_Reader_take : trFn Try.prog Try.f47 i_coder_Reader_take = some i_coder_Reader_take := by kernel_rfl
theorem ok_law03_DigestPreimages : trFn Try.prog Try.f9 i_law03_DigestPreimages = some i_law03_DigestPreimages := by kernel_rfl
theorem ok_law03_up : trFn Try.prog Try.f26 i_law03_up = some i_law03_up := by kernel_rfl
theorem ok_digest_Pair : trFn Try.prog Try.f29 i_digest_Pair = some i_digest_Pair := by kernel_rfl
theorem ok_digest_width : trFn Try.prog Try.f48 i_digest_width = some i_digest_width := by kernel_rfl
theorem ok_slices_Concat_sl_byte_byte : trFn Try.prog Try.f49 i_slices_Concat_sl_byte_byte = some i_slices_Concat_sl_byte_byte := by kernel_rfl
theorem ok_slices_Grow_sl_byte_byte : trFn Try.prog Try.f50 i_slices_Grow_sl_byte_byte = some i_slices_Grow_sl_byte_byte := by kernel_rfl
theorem ok_digest_None : trFn Try.prog Try.f34 i_digest_None = some i_digest_None := by kernel_rfl
theorem ok_digest_Value : trFn Try.prog Try.f27 i_digest_Value = some i_digest_Value := by kernel_rfl
theorem ok_ref03_Value : trFn Try.prog Try.f28 i_ref03_Value = some i_ref03_Value := by kernel_rfl
theorem ok_digest_Node : trFn Try.prog Try.f30 i_digest_Node = some i_digest_Node := by kernel_rfl
theorem ok_law03_may : trFn Try.prog Try.f31 i_law03_may = some i_law03_may := by kernel_rfl
theorem ok_ref03_Pair : trFn Try.prog Try.f32 i_ref03_Pair = some i_ref03_Pair := by kernel_rfl
theorem ok_ref03_Node : trFn Try.prog Try.f33 i_ref03_Node = some i_ref03_Node := by kernel_rfl
theorem ok_law03_DigestApart : trFn Try.prog Try.f10 i_law03_DigestApart = some i_law03_DigestApart := by kernel_rfl
theorem ok_law02_CoderReads : trFn Try.prog Try.f12 i_law02_CoderReads = some i_law02_CoderReads := by kernel_rfl
theorem ok_law02_pick : trFn Try.prog Try.f36 i_law02_pick = some i_law02_pick := by kernel_rfl
theorem ok_ref02_Reader_Number : trFn Try.prog Try.f37 i_ref02_Reader_Number = some i_ref02_Reader_Number := by kernel_rfl
theorem ok_ref02_Reader_Byte : trFn Try.prog Try.f39 i_ref02_Reader_Byte = some i_ref02_Reader_Byte := by kernel_rfl
theorem ok_coder_Reader_Bytes : trFn Try.prog Try.f35 i_coder_Reader_Bytes = some i_coder_Reader_Bytes := by kernel_rfl
theorem ok_ref02_Reader_Bytes : trFn Try.prog Try.f40 i_ref02_Reader_Bytes = some i_ref02_Reader_Bytes := by kernel_rfl
theorem ok_coder_Reader_End : trFn Try.prog Try.f41 i_coder_Reader_End = some i_coder_Reader_End := by kernel_rfl
theorem ok_law00_Code : trFn Try.prog Try.f42 i_law00_Code = some i_law00_Code := by kernel_rfl
theorem ok_ref02_Reader_End : trFn Try.prog Try.f43 i_ref02_Reader_End = some i_ref02_Reader_End := by kernel_rfl
theorem ok_law02_CoderBack : trFn Try.prog Try.f13 i_law02_CoderBack = some i_law02_CoderBack := by kernel_rfl
theorem tabOk : TabOk Try.prog tab := fun f fn h => by
  unfold tab at h
  split at h
  · cases h; exact ⟨Try.f3, i_law01_ShaRounds, Try.func3, ok_law01_ShaRounds⟩
  · cases h; exact ⟨Try.f14, i_sha_Round, Try.func14, ok_sha_Round⟩
  · cases h; exact ⟨Try.f44, i_math_bits_RotateLeft32, Try.func44, ok_math_bits_RotateLeft32⟩
  · cases h; exact ⟨Try.f15, i_ref01_Round, Try.func15, ok_ref01_Round⟩
  · cases h; exact ⟨Try.f45, i_ref01_turn, Try.func45, ok_ref01_turn⟩
  · cases h; exact ⟨Try.f4, i_law01_ShaTails, Try.func4, ok_law01_ShaTails⟩
  · cases h; exact ⟨Try.f16, i_sha_Tail, Try.func16, ok_sha_Tail⟩
  · cases h; exact ⟨Try.f17, i_ref01_Tail, Try.func17, ok_ref01_Tail⟩
  · cases h; exact ⟨Try.f5, i_law02_CoderNumbers, Try.func5, ok_law02_CoderNumbers⟩
  · cases h; exact ⟨Try.f18, i_coder_Number, Try.func18, ok_coder_Number⟩
  · cases h; exact ⟨Try.f19, i_ref02_Number, Try.func19, ok_ref02_Number⟩
  · cases h; exact ⟨Try.f6, i_law02_CoderBytes, Try.func6, ok_law02_CoderBytes⟩
  · cases h; exact ⟨Try.f20, i_coder_Bytes, Try.func20, ok_coder_Bytes⟩
  · cases h; exact ⟨Try.f21, i_ref02_Bytes, Try.func21, ok_ref02_Bytes⟩
  · cases h; exact ⟨Try.f7, i_law01_ShaWords, Try.func7, ok_law01_ShaWords⟩
  · cases h; exact ⟨Try.f22, i_sha_Words, Try.func22, ok_sha_Words⟩
  · cases h; exact ⟨Try.f23, i_ref01_Words, Try.func23, ok_ref01_Words⟩
  · cases h; exact ⟨Try.f8, i_law02_CoderApart, Try.func8, ok_law02_CoderApart⟩
  · cases h; exact ⟨Try.f24, i_coder_NewReader, Try.func24, ok_coder_NewReader⟩
  · cases h; exact ⟨Try.f46, i_slices_Clone_sl_byte_byte, Try.func46, ok_slices_Clone_sl_byte_byte⟩
  · cases h; exact ⟨Try.f25, i_coder_Reader_Number, Try.func25, ok_coder_Reader_Number⟩
  · cases h; exact ⟨Try.f38, i_coder_Reader_Byte, Try.func38, ok_coder_Reader_Byte⟩
  · cases h; exact ⟨Try.f47, i_coder_Reader_take, Try.func47, ok_coder_Reader_take⟩
  · cases h; exact ⟨Try.f9, i_law03_DigestPreimages, Try.func9, ok_law03_DigestPreimages⟩
  · cases h; exact ⟨Try.f26, i_law03_up, Try.func26, ok_law03_up⟩
  · cases h; exact ⟨Try.f29, i_digest_Pair, Try.func29, ok_digest_Pair⟩
  · cases h; exact ⟨Try.f48, i_digest_width, Try.func48, ok_digest_width⟩
  · cases h; exact ⟨Try.f49, i_slices_Concat_sl_byte_byte, Try.func49, ok_slices_Concat_sl_byte_byte⟩
  · cases h; exact ⟨Try.f50, i_slices_Grow_sl_byte_byte, Try.func50, ok_slices_Grow_sl_byte_byte⟩
  · cases h; exact ⟨Try.f34, i_digest_None, Try.func34, ok_digest_None⟩
  · cases h; exact ⟨Try.f27, i_digest_Value, Try.func27, ok_digest_Value⟩
  · cases h; exact ⟨Try.f28, i_ref03_Value, Try.func28, ok_ref03_Value⟩
  · cases h; exact ⟨Try.f30, i_digest_Node, Try.func30, ok_digest_Node⟩
  · cases h; exact ⟨Try.f31, i_law03_may, Try.func31, ok_law03_may⟩
  · cases h; exact ⟨Try.f32, i_ref03_Pair, Try.func32, ok_ref03_Pair⟩
  · cases h; exact ⟨Try.f33, i_ref03_Node, Try.func33, ok_ref03_Node⟩
  · cases h; exact ⟨Try.f10, i_law03_DigestApart, Try.func10, ok_law03_DigestApart⟩
  · cases h; exact ⟨Try.f12, i_law02_CoderReads, Try.func12, ok_law02_CoderReads⟩
  · cases h; exact ⟨Try.f36, i_law02_pick, Try.func36, ok_law02_pick⟩
  · cases h; exact ⟨Try.f37, i_ref02_Reader_Number, Try.func37, ok_ref02_Reader_Number⟩
  · cases h; exact ⟨Try.f39, i_ref02_Reader_Byte, Try.func39, ok_ref02_Reader_Byte⟩
  · cases h; exact ⟨Try.f35, i_coder_Reader_Bytes, Try.func35, ok_coder_Reader_Bytes⟩
  · cases h; exact ⟨Try.f40, i_ref02_Reader_Bytes, Try.func40, ok_ref02_Reader_Bytes⟩
  · cases h; exact ⟨Try.f41, i_coder_Reader_End, Try.func41, ok_coder_Reader_End⟩
  · cases h; exact ⟨Try.f42, i_law00_Code, Try.func42, ok_law00_Code⟩
  · cases h; exact ⟨Try.f43, i_ref02_Reader_End, Try.func43, ok_ref02_Reader_End⟩
  · cases h; exact ⟨Try.f13, i_law02_CoderBack, Try.func13, ok_law02_CoderBack⟩
  · cases h
end Go.Proofs.Ytfbipgidlecmkaa
