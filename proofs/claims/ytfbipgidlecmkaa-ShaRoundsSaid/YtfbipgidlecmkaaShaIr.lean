/- The IR of the seat's functions, printed by a program of this session. -/
import Derived.Test.YtfbipgidlecmkaaEvRow
import Derived.Test.YtfbipgidlecmkaaChecked
set_option linter.unusedVariables false
namespace Go.Proofs.Ytfbipgidlecmkaa
open Go.Ev

/-- heartwood/heartwoodlaw01.ShaRounds -/
def ir3 : Ev.Fn := ⟨3, 22, 1,
  (.seq
   (.reg [] [
     ⟨(some 3), .box 0 8 (.t 0), none, []⟩,
     ⟨(some 6), .mv (.k (.bool false)), none, []⟩])
   (.seq
    (.reg [] [
      ⟨(some 7), .build [(.int .u32 0), (.int .u32 0), (.int .u32 0), (.int .u32 0), (.int .u32 0), (.int .u32 0), (.int .u32 0), (.int .u32 0)] [], none, []⟩,
      ⟨(some 8), .qcall 14 [(.t 7), (.k (.int .u32 1)), (.k (.int .u32 0))] [], none, []⟩,
      ⟨(some 9), .ix 8 1 false (.t 8) (.k (.int .i64 0)), none, []⟩,
      ⟨(some 10), .bin .plain .eql (.t 9) (.k (.int .u32 1)), none, []⟩,
      ⟨(some 11), .mv (.t 10), none, []⟩,
      ⟨(some 12), .load true 8 (.t 3), (some (11, true)), []⟩,
      ⟨(some 13), .mv (.t 1), (some (11, true)), []⟩,
      ⟨(some 14), .mv (.t 2), (some (11, true)), []⟩,
      ⟨(some 15), .qcall 14 [(.t 12), (.t 13), (.t 14)] [], (some (11, true)), []⟩,
      ⟨(some 16), .load true 8 (.t 3), (some (11, true)), []⟩,
      ⟨(some 17), .mv (.t 1), (some (11, true)), []⟩,
      ⟨(some 18), .mv (.t 2), (some (11, true)), []⟩,
      ⟨(some 19), .qcall 15 [(.t 16), (.t 17), (.t 18)] [], (some (11, true)), []⟩,
      ⟨(some 20), .bin (.arr 8) .eql (.t 15) (.t 19), (some (11, true)), []⟩,
      ⟨(some 21), .pick (.t 11) (.t 20) (.k (.bool false)), none, []⟩,
      ⟨(some 6), .mv (.t 21), none, []⟩])
    .ret)),
  [.tmp 6], [], false⟩

/-- heartwood/sha.Round -/
def ir14 : Ev.Fn := ⟨3, 85, 2,
  (.seq
   (.reg [] [
     ⟨(some 3), .box 0 8 (.t 0), none, []⟩,
     ⟨(some 6), .new 1 [(.int .u32 0), (.int .u32 0), (.int .u32 0), (.int .u32 0), (.int .u32 0), (.int .u32 0), (.int .u32 0), (.int .u32 0)], none, []⟩])
   (.seq
    (.reg [] [
      ⟨(some 15), .iap 8 1 (.t 3) (.k (.int .i64 0)), none, []⟩,
      ⟨(some 16), .load false 1 (.t 15), none, []⟩,
      ⟨(some 17), .iap 8 1 (.t 3) (.k (.int .i64 1)), none, []⟩,
      ⟨(some 18), .load false 1 (.t 17), none, []⟩,
      ⟨(some 19), .iap 8 1 (.t 3) (.k (.int .i64 2)), none, []⟩,
      ⟨(some 20), .load false 1 (.t 19), none, []⟩,
      ⟨(some 21), .iap 8 1 (.t 3) (.k (.int .i64 4)), none, []⟩,
      ⟨(some 22), .load false 1 (.t 21), none, []⟩,
      ⟨(some 23), .iap 8 1 (.t 3) (.k (.int .i64 5)), none, []⟩,
      ⟨(some 24), .load false 1 (.t 23), none, []⟩,
      ⟨(some 25), .iap 8 1 (.t 3) (.k (.int .i64 6)), none, []⟩,
      ⟨(some 26), .load false 1 (.t 25), none, []⟩,
      ⟨(some 7), .mv (.t 16), none, []⟩,
      ⟨(some 8), .mv (.t 18), none, []⟩,
      ⟨(some 9), .mv (.t 20), none, []⟩,
      ⟨(some 10), .mv (.t 22), none, []⟩,
      ⟨(some 11), .mv (.t 24), none, []⟩,
      ⟨(some 12), .mv (.t 26), none, []⟩])
    (.seq
     (.reg [] [
       ⟨(some 27), .iap 8 1 (.t 3) (.k (.int .i64 7)), none, []⟩,
       ⟨(some 28), .load false 1 (.t 27), none, []⟩,
       ⟨(some 29), .mv (.t 10), none, []⟩,
       ⟨(some 30), .qcall 44 [(.t 29), (.k (.int .i64 (-6)))] [], none, []⟩,
       ⟨(some 31), .mv (.t 10), none, []⟩,
       ⟨(some 32), .qcall 44 [(.t 31), (.k (.int .i64 (-11)))] [], none, []⟩,
       ⟨(some 33), .bin .plain .xor (.t 30) (.t 32), none, []⟩,
       ⟨(some 34), .mv (.t 10), none, []⟩,
       ⟨(some 35), .qcall 44 [(.t 34), (.k (.int .i64 (-25)))] [], none, []⟩,
       ⟨(some 36), .bin .plain .xor (.t 33) (.t 35), none, []⟩,
       ⟨(some 37), .bin .plain .add (.t 28) (.t 36), none, []⟩,
       ⟨(some 38), .mv (.t 10), none, []⟩,
       ⟨(some 39), .mv (.t 11), none, []⟩,
       ⟨(some 40), .bin .plain .and (.t 38) (.t 39), none, []⟩,
       ⟨(some 41), .mv (.t 10), none, []⟩,
       ⟨(some 42), .un .xor (.t 41), none, []⟩,
       ⟨(some 43), .mv (.t 12), none, []⟩,
       ⟨(some 44), .bin .plain .and (.t 42) (.t 43), none, []⟩,
       ⟨(some 45), .bin .plain .xor (.t 40) (.t 44), none, []⟩,
       ⟨(some 46), .bin .plain .add (.t 37) (.t 45), none, []⟩,
       ⟨(some 47), .mv (.t 1), none, []⟩,
       ⟨(some 48), .bin .plain .add (.t 46) (.t 47), none, []⟩,
       ⟨(some 49), .mv (.t 2), none, []⟩,
       ⟨(some 50), .bin .plain .add (.t 48) (.t 49), none, []⟩,
       ⟨(some 13), .mv (.t 50), none, []⟩])
     (.seq
      (.reg [] [
        ⟨(some 51), .mv (.t 7), none, []⟩,
        ⟨(some 52), .qcall 44 [(.t 51), (.k (.int .i64 (-2)))] [], none, []⟩,
        ⟨(some 53), .mv (.t 7), none, []⟩,
        ⟨(some 54), .qcall 44 [(.t 53), (.k (.int .i64 (-13)))] [], none, []⟩,
        ⟨(some 55), .bin .plain .xor (.t 52) (.t 54), none, []⟩,
        ⟨(some 56), .mv (.t 7), none, []⟩,
        ⟨(some 57), .qcall 44 [(.t 56), (.k (.int .i64 (-22)))] [], none, []⟩,
        ⟨(some 58), .bin .plain .xor (.t 55) (.t 57), none, []⟩,
        ⟨(some 59), .mv (.t 7), none, []⟩,
        ⟨(some 60), .mv (.t 8), none, []⟩,
        ⟨(some 61), .bin .plain .and (.t 59) (.t 60), none, []⟩,
        ⟨(some 62), .mv (.t 7), none, []⟩,
        ⟨(some 63), .mv (.t 9), none, []⟩,
        ⟨(some 64), .bin .plain .and (.t 62) (.t 63), none, []⟩,
        ⟨(some 65), .bin .plain .xor (.t 61) (.t 64), none, []⟩,
        ⟨(some 66), .mv (.t 8), none, []⟩,
        ⟨(some 67), .mv (.t 9), none, []⟩,
        ⟨(some 68), .bin .plain .and (.t 66) (.t 67), none, []⟩,
        ⟨(some 69), .bin .plain .xor (.t 65) (.t 68), none, []⟩,
        ⟨(some 70), .bin .plain .add (.t 58) (.t 69), none, []⟩,
        ⟨(some 14), .mv (.t 70), none, []⟩])
      (.seq
       (.reg [] [
         ⟨(some 71), .mv (.t 13), none, []⟩,
         ⟨(some 72), .mv (.t 14), none, []⟩,
         ⟨(some 73), .bin .plain .add (.t 71) (.t 72), none, []⟩,
         ⟨(some 74), .mv (.t 7), none, []⟩,
         ⟨(some 75), .mv (.t 8), none, []⟩,
         ⟨(some 76), .mv (.t 9), none, []⟩,
         ⟨(some 77), .iap 8 1 (.t 3) (.k (.int .i64 3)), none, []⟩,
         ⟨(some 78), .load false 1 (.t 77), none, []⟩,
         ⟨(some 79), .mv (.t 13), none, []⟩,
         ⟨(some 80), .bin .plain .add (.t 78) (.t 79), none, []⟩,
         ⟨(some 81), .mv (.t 10), none, []⟩,
         ⟨(some 82), .mv (.t 11), none, []⟩,
         ⟨(some 83), .mv (.t 12), none, []⟩,
         ⟨(some 84), .build [(.int .u32 0), (.int .u32 0), (.int .u32 0), (.int .u32 0), (.int .u32 0), (.int .u32 0), (.int .u32 0), (.int .u32 0)] [(0, 1, (.t 73)), (1, 1, (.t 74)), (2, 1, (.t 75)), (3, 1, (.t 76)), (4, 1, (.t 80)), (5, 1, (.t 81)), (6, 1, (.t 82)), (7, 1, (.t 83))], none, []⟩,
         ⟨none, .store 8 (.t 6) (.t 84), none, []⟩])
       .ret))))),
  [.cell 6 true 8], [], false⟩

/-- math/bits.RotateLeft32 -/
def ir44 : Ev.Fn := ⟨2, 17, 0,
  (.seq
   (.reg [] [
     ⟨(some 4), .mv (.k (.int .u32 0)), none, []⟩])
   (.seq
    (.reg [] [
      ⟨(some 6), .mv (.t 1), none, []⟩,
      ⟨(some 7), .conv .u64 (.t 6), none, []⟩,
      ⟨(some 8), .bin .plain .and (.t 7) (.k (.int .u64 31)), none, []⟩,
      ⟨(some 5), .mv (.t 8), none, []⟩])
    (.seq
     (.reg [] [
       ⟨(some 9), .mv (.t 0), none, []⟩,
       ⟨(some 10), .mv (.t 5), none, []⟩,
       ⟨(some 11), .bin .plain .shl (.t 9) (.t 10), none, []⟩,
       ⟨(some 12), .mv (.t 0), none, []⟩,
       ⟨(some 13), .mv (.t 5), none, []⟩,
       ⟨(some 14), .bin .plain .sub (.k (.int .u64 32)) (.t 13), none, []⟩,
       ⟨(some 15), .bin .plain .shr (.t 12) (.t 14), none, []⟩,
       ⟨(some 16), .bin .plain .or (.t 11) (.t 15), none, []⟩,
       ⟨(some 4), .mv (.t 16), none, []⟩])
     .ret))),
  [.tmp 4], [], false⟩

/-- heartwood/heartwoodref01.Round -/
def ir15 : Ev.Fn := ⟨3, 83, 2,
  (.seq
   (.reg [] [
     ⟨(some 3), .box 0 8 (.t 0), none, []⟩,
     ⟨(some 6), .new 1 [(.int .u32 0), (.int .u32 0), (.int .u32 0), (.int .u32 0), (.int .u32 0), (.int .u32 0), (.int .u32 0), (.int .u32 0)], none, []⟩])
   (.seq
    (.reg [] [
      ⟨(some 11), .iap 8 1 (.t 3) (.k (.int .i64 0)), none, []⟩,
      ⟨(some 12), .load false 1 (.t 11), none, []⟩,
      ⟨(some 7), .mv (.t 12), none, []⟩])
    (.seq
     (.reg [] [
       ⟨(some 13), .iap 8 1 (.t 3) (.k (.int .i64 4)), none, []⟩,
       ⟨(some 14), .load false 1 (.t 13), none, []⟩,
       ⟨(some 8), .mv (.t 14), none, []⟩])
     (.seq
      (.reg [] [
        ⟨(some 15), .iap 8 1 (.t 3) (.k (.int .i64 7)), none, []⟩,
        ⟨(some 16), .load false 1 (.t 15), none, []⟩,
        ⟨(some 17), .mv (.t 8), none, []⟩,
        ⟨(some 18), .qcall 45 [(.t 17), (.k (.int .i64 6))] [], none, []⟩,
        ⟨(some 19), .mv (.t 8), none, []⟩,
        ⟨(some 20), .qcall 45 [(.t 19), (.k (.int .i64 11))] [], none, []⟩,
        ⟨(some 21), .bin .plain .xor (.t 18) (.t 20), none, []⟩,
        ⟨(some 22), .mv (.t 8), none, []⟩,
        ⟨(some 23), .qcall 45 [(.t 22), (.k (.int .i64 25))] [], none, []⟩,
        ⟨(some 24), .bin .plain .xor (.t 21) (.t 23), none, []⟩,
        ⟨(some 25), .bin .plain .add (.t 16) (.t 24), none, []⟩,
        ⟨(some 26), .mv (.t 8), none, []⟩,
        ⟨(some 27), .iap 8 1 (.t 3) (.k (.int .i64 5)), none, []⟩,
        ⟨(some 28), .load false 1 (.t 27), none, []⟩,
        ⟨(some 29), .bin .plain .and (.t 26) (.t 28), none, []⟩,
        ⟨(some 30), .mv (.t 8), none, []⟩,
        ⟨(some 31), .un .xor (.t 30), none, []⟩,
        ⟨(some 32), .iap 8 1 (.t 3) (.k (.int .i64 6)), none, []⟩,
        ⟨(some 33), .load false 1 (.t 32), none, []⟩,
        ⟨(some 34), .bin .plain .and (.t 31) (.t 33), none, []⟩,
        ⟨(some 35), .bin .plain .xor (.t 29) (.t 34), none, []⟩,
        ⟨(some 36), .bin .plain .add (.t 25) (.t 35), none, []⟩,
        ⟨(some 37), .mv (.t 1), none, []⟩,
        ⟨(some 38), .bin .plain .add (.t 36) (.t 37), none, []⟩,
        ⟨(some 39), .mv (.t 2), none, []⟩,
        ⟨(some 40), .bin .plain .add (.t 38) (.t 39), none, []⟩,
        ⟨(some 9), .mv (.t 40), none, []⟩])
      (.seq
       (.reg [] [
         ⟨(some 41), .mv (.t 7), none, []⟩,
         ⟨(some 42), .qcall 45 [(.t 41), (.k (.int .i64 2))] [], none, []⟩,
         ⟨(some 43), .mv (.t 7), none, []⟩,
         ⟨(some 44), .qcall 45 [(.t 43), (.k (.int .i64 13))] [], none, []⟩,
         ⟨(some 45), .bin .plain .xor (.t 42) (.t 44), none, []⟩,
         ⟨(some 46), .mv (.t 7), none, []⟩,
         ⟨(some 47), .qcall 45 [(.t 46), (.k (.int .i64 22))] [], none, []⟩,
         ⟨(some 48), .bin .plain .xor (.t 45) (.t 47), none, []⟩,
         ⟨(some 49), .mv (.t 7), none, []⟩,
         ⟨(some 50), .iap 8 1 (.t 3) (.k (.int .i64 1)), none, []⟩,
         ⟨(some 51), .load false 1 (.t 50), none, []⟩,
         ⟨(some 52), .bin .plain .and (.t 49) (.t 51), none, []⟩,
         ⟨(some 53), .mv (.t 7), none, []⟩,
         ⟨(some 54), .iap 8 1 (.t 3) (.k (.int .i64 2)), none, []⟩,
         ⟨(some 55), .load false 1 (.t 54), none, []⟩,
         ⟨(some 56), .bin .plain .and (.t 53) (.t 55), none, []⟩,
         ⟨(some 57), .bin .plain .xor (.t 52) (.t 56), none, []⟩,
         ⟨(some 58), .iap 8 1 (.t 3) (.k (.int .i64 1)), none, []⟩,
         ⟨(some 59), .load false 1 (.t 58), none, []⟩,
         ⟨(some 60), .iap 8 1 (.t 3) (.k (.int .i64 2)), none, []⟩,
         ⟨(some 61), .load false 1 (.t 60), none, []⟩,
         ⟨(some 62), .bin .plain .and (.t 59) (.t 61), none, []⟩,
         ⟨(some 63), .bin .plain .xor (.t 57) (.t 62), none, []⟩,
         ⟨(some 64), .bin .plain .add (.t 48) (.t 63), none, []⟩,
         ⟨(some 10), .mv (.t 64), none, []⟩])
       (.seq
        (.reg [] [
          ⟨(some 65), .mv (.t 9), none, []⟩,
          ⟨(some 66), .mv (.t 10), none, []⟩,
          ⟨(some 67), .bin .plain .add (.t 65) (.t 66), none, []⟩,
          ⟨(some 68), .mv (.t 7), none, []⟩,
          ⟨(some 69), .iap 8 1 (.t 3) (.k (.int .i64 1)), none, []⟩,
          ⟨(some 70), .load false 1 (.t 69), none, []⟩,
          ⟨(some 71), .iap 8 1 (.t 3) (.k (.int .i64 2)), none, []⟩,
          ⟨(some 72), .load false 1 (.t 71), none, []⟩,
          ⟨(some 73), .iap 8 1 (.t 3) (.k (.int .i64 3)), none, []⟩,
          ⟨(some 74), .load false 1 (.t 73), none, []⟩,
          ⟨(some 75), .mv (.t 9), none, []⟩,
          ⟨(some 76), .bin .plain .add (.t 74) (.t 75), none, []⟩,
          ⟨(some 77), .mv (.t 8), none, []⟩,
          ⟨(some 78), .iap 8 1 (.t 3) (.k (.int .i64 5)), none, []⟩,
          ⟨(some 79), .load false 1 (.t 78), none, []⟩,
          ⟨(some 80), .iap 8 1 (.t 3) (.k (.int .i64 6)), none, []⟩,
          ⟨(some 81), .load false 1 (.t 80), none, []⟩,
          ⟨(some 82), .build [(.int .u32 0), (.int .u32 0), (.int .u32 0), (.int .u32 0), (.int .u32 0), (.int .u32 0), (.int .u32 0), (.int .u32 0)] [(0, 1, (.t 67)), (1, 1, (.t 68)), (2, 1, (.t 70)), (3, 1, (.t 72)), (4, 1, (.t 76)), (5, 1, (.t 77)), (6, 1, (.t 79)), (7, 1, (.t 81))], none, []⟩,
          ⟨none, .store 8 (.t 6) (.t 82), none, []⟩])
        .ret)))))),
  [.cell 6 true 8], [], false⟩

/-- heartwood/heartwoodref01.turn -/
def ir45 : Ev.Fn := ⟨2, 13, 0,
  (.seq
   (.reg [] [
     ⟨(some 4), .mv (.k (.int .u32 0)), none, []⟩])
   (.seq
    (.reg [] [
      ⟨(some 5), .mv (.t 0), none, []⟩,
      ⟨(some 6), .mv (.t 1), none, []⟩,
      ⟨(some 7), .bin .plain .shr (.t 5) (.t 6), none, []⟩,
      ⟨(some 8), .mv (.t 0), none, []⟩,
      ⟨(some 9), .mv (.t 1), none, []⟩,
      ⟨(some 10), .bin .plain .sub (.k (.int .i64 32)) (.t 9), none, []⟩,
      ⟨(some 11), .bin .plain .shl (.t 8) (.t 10), none, []⟩,
      ⟨(some 12), .bin .plain .or (.t 7) (.t 11), none, []⟩,
      ⟨(some 4), .mv (.t 12), none, []⟩])
    .ret)),
  [.tmp 4], [], false⟩


theorem ok3 : trFn Try.prog Try.f3 ir3 = some ir3 := by kernel_rfl
theorem ok14 : trFn Try.prog Try.f14 ir14 = some ir14 := by kernel_rfl
theorem ok44 : trFn Try.prog Try.f44 ir44 = some ir44 := by kernel_rfl
theorem ok15 : trFn Try.prog Try.f15 ir15 = some ir15 := by kernel_rfl
theorem ok45 : trFn Try.prog Try.f45 ir45 = some ir45 := by kernel_rfl
def tab (f : Nat) : Option Ev.Fn := match f with
  | 3 => some ir3
  | 14 => some ir14
  | 44 => some ir44
  | 15 => some ir15
  | 45 => some ir45
  | _ => none
theorem tabOk : TabOk Try.prog tab := fun f fn h => by
  unfold tab at h
  split at h
  · cases h; exact ⟨Try.f3, ir3, Try.func3, ok3⟩
  · cases h; exact ⟨Try.f14, ir14, Try.func14, ok14⟩
  · cases h; exact ⟨Try.f44, ir44, Try.func44, ok44⟩
  · cases h; exact ⟨Try.f15, ir15, Try.func15, ok15⟩
  · cases h; exact ⟨Try.f45, ir45, Try.func45, ok45⟩
  · cases h
theorem tab3 : tab 3 = some ir3 := rfl
theorem tab14 : tab 14 = some ir14 := rfl
theorem tab44 : tab 44 = some ir44 := rfl
theorem tab15 : tab 15 = some ir15 := rfl
theorem tab45 : tab 45 = some ir45 := rfl
def G0 : Cf := ⟨fun _ => [], true⟩
end Go.Proofs.Ytfbipgidlecmkaa
