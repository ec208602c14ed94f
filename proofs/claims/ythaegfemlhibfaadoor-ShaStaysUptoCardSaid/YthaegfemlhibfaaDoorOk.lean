/- The IR is the program's. -/
import Derived.Test.YthaegfemlhibfaaDoorIr
import Derived.Test.YthaegfemlhibfaaDoorChecked
set_option linter.unusedVariables false
namespace Go.Proofs.YthaegfemlhibfaaDoor
open Go.Ev

theorem ok_law01_ShaStays : trFn Tryd.prog Tryd.f3 i_law01_ShaStays = some i_law01_ShaStays := by kernel_rfl
theorem ok_sha_Sum : trFn Tryd.prog Tryd.f5 i_sha_Sum = some i_sha_Sum := by kernel_rfl
theorem ok_sha_Tail : trFn Tryd.prog Tryd.f12 i_sha_Tail = some i_sha_Tail := by kernel_rfl
theorem ok_sha_Step : trFn Tryd.prog Tryd.f13 i_sha_Step = some i_sha_Step := by kernel_rfl
theorem ok_sha_Words : trFn Tryd.prog Tryd.f6 i_sha_Words = some i_sha_Words := by kernel_rfl
theorem ok_math_bits_RotateLeft32 : trFn Tryd.prog Tryd.f14 i_math_bits_RotateLeft32 = some i_math_bits_RotateLeft32 := by kernel_rfl
theorem ok_sha_Round : trFn Tryd.prog Tryd.f20 i_sha_Round = some i_sha_Round := by kernel_rfl
theorem tabOk : TabOk Tryd.prog tab := fun f fn h => by
  unfold tab at h
  split at h
  · cases h; exact ⟨Tryd.f3, i_law01_ShaStays, Tryd.func3, ok_law01_ShaStays⟩
  · cases h; exact ⟨Tryd.f5, i_sha_Sum, Tryd.func5, ok_sha_Sum⟩
  · cases h; exact ⟨Tryd.f12, i_sha_Tail, Tryd.func12, ok_sha_Tail⟩
  · cases h; exact ⟨Tryd.f13, i_sha_Step, Tryd.func13, ok_sha_Step⟩
  · cases h; exact ⟨Tryd.f6, i_sha_Words, Tryd.func6, ok_sha_Words⟩
  · cases h; exact ⟨Tryd.f14, i_math_bits_RotateLeft32, Tryd.func14, ok_math_bits_RotateLeft32⟩
  · cases h; exact ⟨Tryd.f20, i_sha_Round, Tryd.func20, ok_sha_Round⟩
  · cases h
end Go.Proofs.YthaegfemlhibfaaDoor
