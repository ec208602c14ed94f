/- The IR of the seat's functions, printed by a program of this session. -/
import Derived.Test.YtfbipgidlecmkaaEvPure
import Derived.Test.YtfbipgidlecmkaaChecked
set_option linter.unusedVariables false
namespace Go.Proofs.Ytfbipgidlecmkaa
open Go.Ev

/-- heartwood/heartwoodlaw01.ShaRounds -/
def ir3 : Ev.Fn := ⟨3, 22, 1,
  (.seq
   (.reg [] [
     ⟨(some 3), .box 0 8 (.t 0), none, []⟩,
     ⟨(some 6), .mv (.k (.bool false)), none, []⟩])
   (.seq
    (.reg [] [
      ⟨(some 7), .build [(.int .u32 0), (.int .u32 0), (.int .u32 0), (.int .u32 0), (.int .u32 0), (.int .u32 0), (.int .u32 0), (.int .u32 0)] [], none, []⟩,
      ⟨(some 8), .qcall 14 [(.t 7), (.k (.int .u32 1)), (.k (.int .u32 0))] [], none, []⟩,
      ⟨(some 9), .ix 8 1 false (.t 8) (.k (.int .i64 0)), none, []⟩,
      ⟨(some 10), .bin .plain .eql (.t 9) (.k (.int .u32 1)), none, []⟩,
      ⟨(some 11), .mv (.t 10), none, []⟩,
      ⟨(some 12), .load true 8 (.t 3), (some (11, true)), []⟩,
      ⟨(some 13), .mv (.t 1), (some (11, true)), []⟩,
      ⟨(some 14), .mv (.t 2), (some (11, true)), []⟩,
      ⟨(some 15), .qcall 14 [(.t 12), (.t 13), (.t 14)] [], (some (11, true)), []⟩,
      ⟨(some 16), .load true 8 (.t 3), (some (11, true)), []⟩,
      ⟨(some 17), .mv (.t 1), (some (11, true)), []⟩,
      ⟨(some 18), .mv (.t 2), (some (11, true)), []⟩,
      ⟨(some 19), .qcall 15 [(.t 16), (.t 17), (.t 18)] [], (some (11, true)), []⟩,
      ⟨(some 20), .bin (.arr 8) .eql (.t 15) (.t 19), (some (11, true)), []⟩,
      ⟨(some 21), .pick (.t 11) (.t 20) (.k (.bool false)), none, []⟩,
      ⟨(some 6), .mv (.t 21), none, []⟩])
    .ret)),
  [.tmp 6], [], false⟩

/-- heartwood/sha.Round -/
def ir14 : Ev.Fn := ⟨3, 85, 2,
  (.seq
   (.reg [] [
     ⟨(some 3), .box 0 8 (.t 0), none, []⟩,
     ⟨(some 6), .new 1 [(.int .u32 0), (.int .u32 0), (.int .u32 0), (.int .u32 0), (.int .u32 0), (.int .u32 0), (.int .u32 0), (.int .u32 0)], none, []⟩])
   (.seq
    (.reg [] [
      ⟨(some 15), .iap 8 1 (.t 3) (.k (.int .i64 0)), none, []⟩,
      ⟨(some 16), .load false 1 (.t 15), none, []⟩,
      ⟨(some 17), .iap 8 1 (.t 3) (.k (.int .i64 1)), none, []⟩,
      ⟨(some 18), .load false 1 (.t 17), none, []⟩,
      ⟨(some 19), .iap 8 1 (.t 3) (.k (.int .i64 2)), none, []⟩,
      ⟨(some 20), .load false 1 (.t 19), none, []⟩,
      ⟨(some 21), .iap 8 1 (.t 3) (.k (.int .i64 4)), none, []⟩,
      ⟨(some 22), .load false 1 (.t 21), none, []⟩,
      ⟨(some 23), .iap 8 1 (.t 3) (.k (.int .i64 5)), none, []⟩,
      ⟨(some 24), .load false 1 (.t 23), none, []⟩,
      ⟨(some 25), .iap 8 1 (.t 3) (.k (.int .i64 6)), none, []⟩,
      ⟨(some 26), .load false 1 (.t 25), none, []⟩,
      ⟨(some 7), .mv (.t 16), none, []⟩,
      ⟨(some 8), .mv (.t 18), none, []⟩,
      ⟨(some 9), .mv (.t 20), none, []⟩,
      ⟨(some 10), .mv (.t 22), none, []⟩,
      ⟨(some 11), .mv (.t 24), none, []⟩,
      ⟨(some 12), .mv (.t 26), none, []⟩])
    (.seq
     (.reg [] [
       ⟨(some 27), .iap 8 1 (.t 3) (.k (.int .i64 7)), none, []⟩,
       ⟨(some 28), .load false 1 (.t 27), none, []⟩,
       ⟨(some 29), .mv (.t 10), none, []⟩,
       ⟨(some 30), .qcall 44 [(.t 29), (.k (.int .i64 (-6)))] [], none, []⟩,
       ⟨(some 31), .mv (.t 10), none, []⟩,
       ⟨(some 32), .qcall 44 [(.t 31), (.k (.int .i64 (-11)))] [], none, []⟩,
       ⟨(some 33), .bin .plain .xor (.t 30) (.t 32), none, []⟩,
       ⟨(some 34), .mv (.t 10), none, []⟩,
       ⟨(some 35), .qcall 44 [(.t 34), (.k (.int .i64 (-25)))] [], none, []⟩,
       ⟨(some 36), .bin .plain .xor (.t 33) (.t 35), none, []⟩,
       ⟨(some 37), .bin .plain .add (.t 28) (.t 36), none, []⟩,
       ⟨(some 38), .mv (.t 10), none, []⟩,
       ⟨(some 39), .mv (.t 11), none, []⟩,
       ⟨(some 40), .bin .plain .and (.t 38) (.t 39), none, []⟩,
       ⟨(some 41), .mv (.t 10), none, []⟩,
       ⟨(some 42), .un .xor (.t 41), none, []⟩,
       ⟨(some 43), .mv (.t 12), none, []⟩,
       ⟨(some 44), .bin .plain .and (.t 42) (.t 43), none, []⟩,
       ⟨(some 45), .bin .plain .xor (.t 40) (.t 44), none, []⟩,
       ⟨(some 46), .bin .plain .add (.t 37) (.t 45), none, []⟩,
       ⟨(some 47), .mv (.t 1), none, []⟩,
       ⟨(some 48), .bin .plain .add (.t 46) (.t 47), none, []⟩,
       ⟨(some 49), .mv (.t 2), none, []⟩,
       ⟨(some 50), .bin .plain .add (.t 48) (.t 49), none, []⟩,
       ⟨(some 13), .mv (.t 50), none, []⟩])
     (.seq
      (.reg [] [
        ⟨(some 51), .mv (.t 7), none, []⟩,
        ⟨(some 52), .qcall 44 [(.t 51), (.k (.int .i64 (-2)))] [], none, []⟩,
        ⟨(some 53), .mv (.t 7), none, []⟩,
        ⟨(some 54), .qcall 44 [(.t 53), (.k (.int .i64 (-13)))] [], none, []⟩,
        ⟨(some 55), .bin .plain .xor (.t 52) (.t 54), none, []⟩,
        ⟨(some 56), .mv (.t 7), none, []⟩,
        ⟨(some 57), .qcall 44 [(.t 56), (.k (.int .i64 (-22)))] [], none, []⟩,
        ⟨(some 58), .bin .plain .xor (.t 55) (.t 57), none, []⟩,
        ⟨(some 59), .mv (.t 7), none, []⟩,
        ⟨(some 60), .mv (.t 8), none, []⟩,
        ⟨(some 61), .bin .plain .and (.t 59) (.t 60), none, []⟩,
        ⟨(some 62), .mv (.t 7), none, []⟩,
        ⟨(some 63), .mv (.t 9), none, []⟩,
        ⟨(some 64), .bin .plain .and (.t 62) (.t 63), none, []⟩,
        ⟨(some 65), .bin .plain .xor (.t 61) (.t 64), none, []⟩,
        ⟨(some 66), .mv (.t 8), none, []⟩,
        ⟨(some 67), .mv (.t 9), none, []⟩,
        ⟨(some 68), .bin .plain .and (.t 66) (.t 67), none, []⟩,
        ⟨(some 69), .bin .plain .xor (.t 65) (.t 68), none, []⟩,
        ⟨(some 70), .bin .plain .add (.t 58) (.t 69), none, []⟩,
        ⟨(some 14), .mv (.t 70), none, []⟩])
      (.seq
       (.reg [] [
         ⟨(some 71), .mv (.t 13), none, []⟩,
         ⟨(some 72), .mv (.t 14), none, []⟩,
         ⟨(some 73), .bin .plain .add (.t 71) (.t 72), none, []⟩,
         ⟨(some 74), .mv (.t 7), none, []⟩,
         ⟨(some 75), .mv (.t 8), none, []⟩,
         ⟨(some 76), .mv (.t 9), none, []⟩,
         ⟨(some 77), .iap 8 1 (.t 3) (.k (.int .i64 3)), none, []⟩,
         ⟨(some 78), .load false 1 (.t 77), none, []⟩,
         ⟨(some 79), .mv (.t 13), none, []⟩,
         ⟨(some 80), .bin .plain .add (.t 78) (.t 79), none, []⟩,
         ⟨(some 81), .mv (.t 10), none, []⟩,
         ⟨(some 82), .mv (.t 11), none, []⟩,
         ⟨(some 83), .mv (.t 12), none, []⟩,
         ⟨(some 84), .build [(.int .u32 0), (.int .u32 0), (.int .u32 0), (.int .u32 0), (.int .u32 0), (.int .u32 0), (.int .u32 0), (.int .u32 0)] [(0, 1, (.t 73)), (1, 1, (.t 74)), (2, 1, (.t 75)), (3, 1, (.t 76)), (4, 1, (.t 80)), (5, 1, (.t 81)), (6, 1, (.t 82)), (7, 1, (.t 83))], none, []⟩,
         ⟨none, .store 8 (.t 6) (.t 84), none, []⟩])
       .ret))))),
  [.cell 6 true 8], [], false⟩

/-- math/bits.RotateLeft32 -/
def ir44 : Ev.Fn := ⟨2, 17, 0,
  (.seq
   (.reg [] [
     ⟨(some 4), .mv (.k (.int .u32 0)), none, []⟩])
   (.seq
    (.reg [] [
      ⟨(some 6), .mv (.t 1), none, []⟩,
      ⟨(some 7), .conv .u64 (.t 6), none, []⟩,
      ⟨(some 8), .bin .plain .and (.t 7) (.k (.int .u64 31)), none, []⟩,
      ⟨(some 5), .mv (.t 8), none, []⟩])
    (.seq
     (.reg [] [
       ⟨(some 9), .mv (.t 0), none, []⟩,
       ⟨(some 10), .mv (.t 5), none, []⟩,
       ⟨(some 11), .bin .plain .shl (.t 9) (.t 10), none, []⟩,
       ⟨(some 12), .mv (.t 0), none, []⟩,
       ⟨(some 13), .mv (.t 5), none, []⟩,
       ⟨(some 14), .bin .plain .sub (.k (.int .u64 32)) (.t 13), none, []⟩,
       ⟨(some 15), .bin .plain .shr (.t 12) (.t 14), none, []⟩,
       ⟨(some 16), .bin .plain .or (.t 11) (.t 15), none, []⟩,
       ⟨(some 4), .mv (.t 16), none, []⟩])
     .ret))),
  [.tmp 4], [], false⟩

/-- heartwood/heartwoodref01.Round -/
def ir15 : Ev.Fn := ⟨3, 83, 2,
  (.seq
   (.reg [] [
     ⟨(some 3), .box 0 8 (.t 0), none, []⟩,
     ⟨(some 6), .new 1 [(.int .u32 0), (.int .u32 0), (.int .u32 0), (.int .u32 0), (.int .u32 0), (.int .u32 0), (.int .u32 0), (.int .u32 0)], none, []⟩])
   (.seq
    (.reg [] [
      ⟨(some 11), .iap 8 1 (.t 3) (.k (.int .i64 0)), none, []⟩,
      ⟨(some 12), .load false 1 (.t 11), none, []⟩,
      ⟨(some 7), .mv (.t 12), none, []⟩])
    (.seq
     (.reg [] [
       ⟨(some 13), .iap 8 1 (.t 3) (.k (.int .i64 4)), none, []⟩,
       ⟨(some 14), .load false 1 (.t 13), none, []⟩,
       ⟨(some 8), .mv (.t 14), none, []⟩])
     (.seq
      (.reg [] [
        ⟨(some 15), .iap 8 1 (.t 3) (.k (.int .i64 7)), none, []⟩,
        ⟨(some 16), .load false 1 (.t 15), none, []⟩,
        ⟨(some 17), .mv (.t 8), none, []⟩,
        ⟨(some 18), .qcall 45 [(.t 17), (.k (.int .i64 6))] [], none, []⟩,
        ⟨(some 19), .mv (.t 8), none, []⟩,
        ⟨(some 20), .qcall 45 [(.t 19), (.k (.int .i64 11))] [], none, []⟩,
        ⟨(some 21), .bin .plain .xor (.t 18) (.t 20), none, []⟩,
        ⟨(some 22), .mv (.t 8), none, []⟩,
        ⟨(some 23), .qcall 45 [(.t 22), (.k (.int .i64 25))] [], none, []⟩,
        ⟨(some 24), .bin .plain .xor (.t 21) (.t 23), none, []⟩,
        ⟨(some 25), .bin .plain .add (.t 16) (.t 24), none, []⟩,
        ⟨(some 26), .mv (.t 8), none, []⟩,
        ⟨(some 27), .iap 8 1 (.t 3) (.k (.int .i64 5)), none, []⟩,
        ⟨(some 28), .load false 1 (.t 27), none, []⟩,
        ⟨(some 29), .bin .plain .and (.t 26) (.t 28), none, []⟩,
        ⟨(some 30), .mv (.t 8), none, []⟩,
        ⟨(some 31), .un .xor (.t 30), none, []⟩,
        ⟨(some 32), .iap 8 1 (.t 3) (.k (.int .i64 6)), none, []⟩,
        ⟨(some 33), .load false 1 (.t 32), none, []⟩,
        ⟨(some 34), .bin .plain .and (.t 31) (.t 33), none, []⟩,
        ⟨(some 35), .bin .plain .xor (.t 29) (.t 34), none, []⟩,
        ⟨(some 36), .bin .plain .add (.t 25) (.t 35), none, []⟩,
        ⟨(some 37), .mv (.t 1), none, []⟩,
        ⟨(some 38), .bin .plain .add (.t 36) (.t 37), none, []⟩,
        ⟨(some 39), .mv (.t 2), none, []⟩,
        ⟨(some 40), .bin .plain .add (.t 38) (.t 39), none, []⟩,
        ⟨(some 9), .mv (.t 40), none, []⟩])
      (.seq
       (.reg [] [
         ⟨(some 41), .mv (.t 7), none, []⟩,
         ⟨(some 42), .qcall 45 [(.t 41), (.k (.int .i64 2))] [], none, []⟩,
         ⟨(some 43), .mv (.t 7), none, []⟩,
         ⟨(some 44), .qcall 45 [(.t 43), (.k (.int .i64 13))] [], none, []⟩,
         ⟨(some 45), .bin .plain .xor (.t 42) (.t 44), none, []⟩,
         ⟨(some 46), .mv (.t 7), none, []⟩,
         ⟨(some 47), .qcall 45 [(.t 46), (.k (.int .i64 22))] [], none, []⟩,
         ⟨(some 48), .bin .plain .xor (.t 45) (.t 47), none, []⟩,
         ⟨(some 49), .mv (.t 7), none, []⟩,
         ⟨(some 50), .iap 8 1 (.t 3) (.k (.int .i64 1)), none, []⟩,
         ⟨(some 51), .load false 1 (.t 50), none, []⟩,
         ⟨(some 52), .bin .plain .and (.t 49) (.t 51), none, []⟩,
         ⟨(some 53), .mv (.t 7), none, []⟩,
         ⟨(some 54), .iap 8 1 (.t 3) (.k (.int .i64 2)), none, []⟩,
         ⟨(some 55), .load false 1 (.t 54), none, []⟩,
         ⟨(some 56), .bin .plain .and (.t 53) (.t 55), none, []⟩,
         ⟨(some 57), .bin .plain .xor (.t 52) (.t 56), none, []⟩,
         ⟨(some 58), .iap 8 1 (.t 3) (.k (.int .i64 1)), none, []⟩,
         ⟨(some 59), .load false 1 (.t 58), none, []⟩,
         ⟨(some 60), .iap 8 1 (.t 3) (.k (.int .i64 2)), none, []⟩,
         ⟨(some 61), .load false 1 (.t 60), none, []⟩,
         ⟨(some 62), .bin .plain .and (.t 59) (.t 61), none, []⟩,
         ⟨(some 63), .bin .plain .xor (.t 57) (.t 62), none, []⟩,
         ⟨(some 64), .bin .plain .add (.t 48) (.t 63), none, []⟩,
         ⟨(some 10), .mv (.t 64), none, []⟩])
       (.seq
        (.reg [] [
          ⟨(some 65), .mv (.t 9), none, []⟩,
          ⟨(some 66), .mv (.t 10), none, []⟩,
          ⟨(some 67), .bin .plain .add (.t 65) (.t 66), none, []⟩,
          ⟨(some 68), .mv (.t 7), none, []⟩,
          ⟨(some 69), .iap 8 1 (.t 3) (.k (.int .i64 1)), none, []⟩,
          ⟨(some 70), .load false 1 (.t 69), none, []⟩,
          ⟨(some 71), .iap 8 1 (.t 3) (.k (.int .i64 2)), none, []⟩,
          ⟨(some 72), .load false 1 (.t 71), none, []⟩,
          ⟨(some 73), .iap 8 1 (.t 3) (.k (.int .i64 3)), none, []⟩,
          ⟨(some 74), .load false 1 (.t 73), none, []⟩,
          ⟨(some 75), .mv (.t 9), none, []⟩,
          ⟨(some 76), .bin .plain .add (.t 74) (.t 75), none, []⟩,
          ⟨(some 77), .mv (.t 8), none, []⟩,
          ⟨(some 78), .iap 8 1 (.t 3) (.k (.int .i64 5)), none, []⟩,
          ⟨(some 79), .load false 1 (.t 78), none, []⟩,
          ⟨(some 80), .iap 8 1 (.t 3) (.k (.int .i64 6)), none, []⟩,
          ⟨(some 81), .load false 1 (.t 80), none, []⟩,
          ⟨(some 82), .build [(.int .u32 0), (.int .u32 0), (.int .u32 0), (.int .u32 0), (.int .u32 0), (.int .u32 0), (.int .u32 0), (.int .u32 0)] [(0, 1, (.t 67)), (1, 1, (.t 68)), (2, 1, (.t 70)), (3, 1, (.t 72)), (4, 1, (.t 76)), (5, 1, (.t 77)), (6, 1, (.t 79)), (7, 1, (.t 81))], none, []⟩,
          ⟨none, .store 8 (.t 6) (.t 82), none, []⟩])
        .ret)))))),
  [.cell 6 true 8], [], false⟩

/-- heartwood/heartwoodref01.turn -/
def ir45 : Ev.Fn := ⟨2, 13, 0,
  (.seq
   (.reg [] [
     ⟨(some 4), .mv (.k (.int .u32 0)), none, []⟩])
   (.seq
    (.reg [] [
      ⟨(some 5), .mv (.t 0), none, []⟩,
      ⟨(some 6), .mv (.t 1), none, []⟩,
      ⟨(some 7), .bin .plain .shr (.t 5) (.t 6), none, []⟩,
      ⟨(some 8), .mv (.t 0), none, []⟩,
      ⟨(some 9), .mv (.t 1), none, []⟩,
      ⟨(some 10), .bin .plain .sub (.k (.int .i64 32)) (.t 9), none, []⟩,
      ⟨(some 11), .bin .plain .shl (.t 8) (.t 10), none, []⟩,
      ⟨(some 12), .bin .plain .or (.t 7) (.t 11), none, []⟩,
      ⟨(some 4), .mv (.t 12), none, []⟩])
    .ret)),
  [.tmp 4], [], false⟩

/-- heartwood/heartwoodlaw01.ShaTails -/
def ir4 : Ev.Fn := ⟨1, 47, 0,
  (.seq
   (.reg [] [
     ⟨(some 2), .mv (.k (.bool false)), none, []⟩])
   (.seq
    (.reg [] [
      ⟨(some 8), .qcall 16 [(.k (.int .i64 55))] [], none, []⟩,
      ⟨(some 7), .mv (.t 8), none, []⟩,
      ⟨(some 9), .ext 0 (.t 7), none, []⟩,
      ⟨(some 10), .ext 1 (.t 7), none, []⟩,
      ⟨(some 3), .mv (.t 9), none, []⟩,
      ⟨(some 4), .mv (.t 10), none, []⟩])
    (.seq
     (.reg [] [
       ⟨(some 12), .mv (.t 0), none, []⟩,
       ⟨(some 13), .qcall 16 [(.t 12)] [], none, []⟩,
       ⟨(some 11), .mv (.t 13), none, []⟩,
       ⟨(some 14), .ext 0 (.t 11), none, []⟩,
       ⟨(some 15), .ext 1 (.t 11), none, []⟩,
       ⟨(some 5), .mv (.t 14), none, []⟩,
       ⟨(some 6), .mv (.t 15), none, []⟩])
     (.seq
      (.seq
       (.reg [] [
         ⟨(some 16), .mv (.t 3), none, []⟩,
         ⟨(some 17), .len false (.t 16), none, []⟩,
         ⟨(some 18), .bin .plain .neq (.t 17) (.k (.int .i64 9)), none, []⟩,
         ⟨(some 19), .mv (.t 18), none, []⟩,
         ⟨(some 20), .mv (.t 4), (some (19, false)), []⟩,
         ⟨(some 21), .bin (.iface 31 true) .neq (.t 20) (.k .nilIface), (some (19, false)), []⟩,
         ⟨(some 22), .pick (.t 19) (.k (.bool true)) (.t 21), none, []⟩])
       (.cond (.t 22)
        (.seq
         (.reg [] [
           ⟨(some 2), .mv (.k (.bool false)), none, []⟩])
         .ret)
        .skip))
      (.seq
       (.seq
        (.reg [] [
          ⟨(some 23), .mv (.t 0), none, []⟩,
          ⟨(some 24), .bin .plain .lss (.t 23) (.k (.int .i64 0)), none, []⟩,
          ⟨(some 25), .mv (.t 24), none, []⟩,
          ⟨(some 26), .mv (.t 0), (some (25, false)), []⟩,
          ⟨(some 27), .bin .plain .gtr (.t 26) (.k (.int .i64 1125899906842624)), (some (25, false)), []⟩,
          ⟨(some 28), .pick (.t 25) (.k (.bool true)) (.t 27), none, []⟩])
        (.cond (.t 28)
         (.seq
          (.reg [] [
            ⟨(some 29), .mv (.t 6), none, []⟩,
            ⟨(some 30), .mki 31 (.k (.int .i64 1)), none, []⟩,
            ⟨(some 31), .bin (.iface 31 false) .eql (.t 29) (.t 30), none, []⟩,
            ⟨(some 32), .mv (.t 31), none, []⟩,
            ⟨(some 33), .mv (.t 5), (some (32, true)), []⟩,
            ⟨(some 34), .len false (.t 33), (some (32, true)), []⟩,
            ⟨(some 35), .bin .plain .eql (.t 34) (.k (.int .i64 0)), (some (32, true)), []⟩,
            ⟨(some 36), .pick (.t 32) (.t 35) (.k (.bool false)), none, []⟩,
            ⟨(some 2), .mv (.t 36), none, []⟩])
          .ret)
         .skip))
       (.seq
        (.reg [] [
          ⟨(some 37), .mv (.t 6), none, []⟩,
          ⟨(some 38), .bin (.iface 31 true) .eql (.t 37) (.k .nilIface), none, []⟩,
          ⟨(some 39), .mv (.t 38), none, []⟩,
          ⟨(some 40), .mv (.t 5), (some (39, true)), []⟩,
          ⟨(some 41), .b2s (.t 40), (some (39, true)), []⟩,
          ⟨(some 42), .mv (.t 0), (some (39, true)), []⟩,
          ⟨(some 43), .qcall 17 [(.t 42)] [], (some (39, true)), []⟩,
          ⟨(some 44), .b2s (.t 43), (some (39, true)), []⟩,
          ⟨(some 45), .bin .plain .eql (.t 41) (.t 44), (some (39, true)), []⟩,
          ⟨(some 46), .pick (.t 39) (.t 45) (.k (.bool false)), none, []⟩,
          ⟨(some 2), .mv (.t 46), none, []⟩])
        .ret)))))),
  [.tmp 2], [], false⟩

def ir16j1 : List Bool := [true, false, false, false, true, false, false, false, false, false, false, false, false, false, false, false, false, false, false, false, false, false, false, false, false, false, false, false, false, false, false, false, false, false, false, false, false]
def ir16k0 : List Bool := [true, false, false, false, true, false, false, false, false, false, false, false, false, false, false, false, false, false, false, false, false, false, false, false, false, false, false, false, false, false, false, false, false, false, false, false, false]
def ir16b0 : IR :=
  (.seq
   (.seq
    (.reg [] [
      ⟨(some 14), .mv (.t 0), none, []⟩,
      ⟨(some 15), .mv (.t 4), none, []⟩,
      ⟨(some 16), .len false (.t 15), none, []⟩,
      ⟨(some 17), .bin .plain .add (.t 14) (.t 16), none, []⟩,
      ⟨(some 18), .bin .plain .rem (.t 17) (.k (.int .i64 64)), none, []⟩,
      ⟨(some 19), .bin .plain .neq (.t 18) (.k (.int .i64 56)), none, []⟩])
    (.cond (.t 19)
     .skip
     (.exit 0)))
   (.block 1 ir16j1
    (.reg [] [
      ⟨(some 20), .mv (.t 4), none, []⟩,
      ⟨(some 21), .litd 1 1 [(.int .u8 0)] [(0, (.k (.int .u8 0)))], none, []⟩,
      ⟨(some 22), .app 1 5 1 1 (.t 20) (.t 21), none, []⟩,
      ⟨(some 4), .mv (.t 22), none, []⟩])))

def ir16j0 : List Bool := [true, false, false, false, true, false, false, false, false, false, false, false, false, false, false, false, false, false, false, false, false, false, false, false, false, false, false, false, false, false, false, false, false, false, false, false, false]
def ir16j3 : List Bool := [true, false, false, false, true, true, false, false, false, false, false, false, false, false, false, false, false, false, false, false, false, false, false, false, false, false, false, false, false, false, false, false, false, false, false, false, false]
def ir16k1 : List Bool := [true, false, false, false, true, true, false, false, false, false, false, false, false, false, false, false, false, false, false, false, false, false, false, false, false, false, false, false, false, false, false, false, false, false, false, false, false]
def ir16b1 : IR :=
  (.seq
   (.seq
    (.reg [] [
      ⟨(some 23), .mv (.t 5), none, []⟩,
      ⟨(some 24), .bin .plain .geq (.t 23) (.k (.int .i64 0)), none, []⟩])
    (.cond (.t 24)
     .skip
     (.exit 2)))
   (.seq
    (.block 3 ir16j3
     (.reg [] [
       ⟨(some 27), .mv (.t 4), none, []⟩,
       ⟨(some 28), .mv (.t 0), none, []⟩,
       ⟨(some 29), .conv .u64 (.t 28), none, []⟩,
       ⟨(some 30), .bin .plain .mul (.k (.int .u64 8)) (.t 29), none, []⟩,
       ⟨(some 31), .mv (.t 5), none, []⟩,
       ⟨(some 32), .bin .plain .shr (.t 30) (.t 31), none, []⟩,
       ⟨(some 33), .conv .u8 (.t 32), none, []⟩,
       ⟨(some 34), .litd 1 1 [(.int .u8 0)] [(0, (.t 33))], none, []⟩,
       ⟨(some 35), .app 2 5 1 1 (.t 27) (.t 34), none, []⟩,
       ⟨(some 4), .mv (.t 35), none, []⟩]))
    (.reg [] [
      ⟨(some 25), .mv (.t 5), none, []⟩,
      ⟨(some 26), .bin .plain .sub (.t 25) (.k (.int .i64 8)), none, []⟩,
      ⟨(some 5), .mv (.t 26), none, []⟩])))

def ir16j2 : List Bool := [false, false, false, false, true, false, false, false, false, false, false, false, false, false, false, false, false, false, false, false, false, false, false, false, false, false, false, false, false, false, false, false, false, false, false, false, false]
/-- heartwood/sha.Tail -/
def ir16 : Ev.Fn := ⟨1, 37, 3,
  (.seq
   (.reg [] [
     ⟨(some 2), .mv (.k (.slice none 0 0)), none, []⟩,
     ⟨(some 3), .mv (.k .nilIface), none, []⟩])
   (.seq
    (.seq
     (.reg [] [
       ⟨(some 6), .mv (.t 0), none, []⟩,
       ⟨(some 7), .bin .plain .lss (.t 6) (.k (.int .i64 0)), none, []⟩,
       ⟨(some 8), .mv (.t 7), none, []⟩,
       ⟨(some 9), .mv (.t 0), (some (8, false)), []⟩,
       ⟨(some 10), .bin .plain .gtr (.t 9) (.k (.int .i64 1125899906842624)), (some (8, false)), []⟩,
       ⟨(some 11), .pick (.t 8) (.k (.bool true)) (.t 10), none, []⟩])
     (.cond (.t 11)
      (.seq
       (.reg [] [
         ⟨(some 12), .mki 31 (.k (.int .i64 1)), none, []⟩,
         ⟨(some 2), .mv (.k (.slice none 0 0)), none, []⟩,
         ⟨(some 3), .mv (.t 12), none, []⟩])
       .ret)
      .skip))
    (.seq
     (.reg [] [
       ⟨(some 13), .lit 0 5 1 1 [(.int .u8 0)] [(0, (.k (.int .u8 128)))], none, []⟩,
       ⟨(some 4), .mv (.t 13), none, []⟩])
     (.seq
      (.block 0 ir16j0
       (.loop ir16k0 ir16b0))
      (.seq
       (.seq
        (.reg [] [
          ⟨(some 5), .mv (.k (.int .i64 56)), none, []⟩])
        (.block 2 ir16j2
         (.loop ir16k1 ir16b1)))
       (.seq
        (.reg [] [
          ⟨(some 36), .mv (.t 4), none, []⟩,
          ⟨(some 2), .mv (.t 36), none, [36]⟩,
          ⟨(some 3), .mv (.k .nilIface), none, []⟩])
        .ret)))))),
  [.tmp 2, .tmp 3], [], false⟩

def ir17j1 : List Bool := [true, false, false, true, false, false, false, false, false, false, false, false, false, false, false, false, false, false, false, false, false, false, false, false, false, false, false, false, false, false, false, false, false, false, false, false]
def ir17k0 : List Bool := [true, false, false, true, false, false, false, false, false, false, false, false, false, false, false, false, false, false, false, false, false, false, false, false, false, false, false, false, false, false, false, false, false, false, false, false]
def ir17b0 : IR :=
  (.seq
   (.seq
    (.reg [] [
      ⟨(some 8), .mv (.t 0), none, []⟩,
      ⟨(some 9), .mv (.t 3), none, []⟩,
      ⟨(some 10), .len false (.t 9), none, []⟩,
      ⟨(some 11), .bin .plain .add (.t 8) (.t 10), none, []⟩,
      ⟨(some 12), .bin .plain .rem (.t 11) (.k (.int .i64 64)), none, []⟩,
      ⟨(some 13), .bin .plain .neq (.t 12) (.k (.int .i64 56)), none, []⟩])
    (.cond (.t 13)
     .skip
     (.exit 0)))
   (.block 1 ir17j1
    (.reg [] [
      ⟨(some 14), .mv (.t 3), none, []⟩,
      ⟨(some 15), .litd 1 1 [(.int .u8 0)] [(0, (.k (.int .u8 0)))], none, []⟩,
      ⟨(some 16), .app 1 5 1 1 (.t 14) (.t 15), none, []⟩,
      ⟨(some 3), .mv (.t 16), none, []⟩])))

def ir17j0 : List Bool := [true, false, false, true, false, false, false, false, false, false, false, false, false, false, false, false, false, false, false, false, false, false, false, false, false, false, false, false, false, false, false, false, false, false, false, false]
def ir17j3 : List Bool := [false, false, false, true, true, true, true, false, false, false, false, false, false, false, false, false, false, false, false, false, false, false, false, false, false, false, false, false, false, false, false, false, false, false, false, false]
def ir17k1 : List Bool := [false, false, false, true, true, true, true, false, false, false, false, false, false, false, false, false, false, false, false, false, false, false, false, false, false, false, false, false, false, false, false, false, false, false, false, false]
def ir17b1 : IR :=
  (.seq
   (.seq
    (.reg [] [
      ⟨(some 21), .mv (.t 6), none, []⟩,
      ⟨(some 22), .bin .plain .geq (.t 21) (.k (.int .i64 0)), none, []⟩])
    (.cond (.t 22)
     .skip
     (.exit 2)))
   (.seq
    (.block 3 ir17j3
     (.seq
      (.reg [] [
        ⟨(some 25), .mv (.t 4), none, []⟩,
        ⟨(some 26), .mv (.t 6), none, []⟩,
        ⟨(some 27), .mv (.t 5), none, []⟩,
        ⟨(some 28), .bin .plain .rem (.t 27) (.k (.int .u64 256)), none, []⟩,
        ⟨(some 29), .conv .u8 (.t 28), none, []⟩,
        ⟨(some 30), .ia 1 (.t 25) (.t 26), none, []⟩,
        ⟨none, .store 1 (.t 30) (.t 29), none, []⟩])
      (.reg [] [
        ⟨(some 31), .mv (.t 5), none, []⟩,
        ⟨(some 32), .bin .plain .quo (.t 31) (.k (.int .u64 256)), none, []⟩,
        ⟨(some 5), .mv (.t 32), none, []⟩])))
    (.reg [] [
      ⟨(some 23), .mv (.t 6), none, []⟩,
      ⟨(some 24), .bin .plain .sub (.t 23) (.k (.int .i64 1)), none, []⟩,
      ⟨(some 6), .mv (.t 24), none, []⟩])))

def ir17j2 : List Bool := [false, false, false, true, true, false, false, false, false, false, false, false, false, false, false, false, false, false, false, false, false, false, false, false, false, false, false, false, false, false, false, false, false, false, false, false]
/-- heartwood/heartwoodref01.Tail -/
def ir17 : Ev.Fn := ⟨1, 36, 4,
  (.seq
   (.reg [] [
     ⟨(some 2), .mv (.k (.slice none 0 0)), none, []⟩])
   (.seq
    (.reg [] [
      ⟨(some 7), .lit 0 5 1 1 [(.int .u8 0)] [(0, (.k (.int .u8 128)))], none, []⟩,
      ⟨(some 3), .mv (.t 7), none, []⟩])
    (.seq
     (.block 0 ir17j0
      (.loop ir17k0 ir17b0))
     (.seq
      (.reg [] [
        ⟨(some 17), .make 2 5 1 1 [(.int .u8 0)] (.k (.int .i64 8)) (.k (.int .i64 8)), none, []⟩,
        ⟨(some 4), .mv (.t 17), none, []⟩])
      (.seq
       (.reg [] [
         ⟨(some 18), .mv (.t 0), none, []⟩,
         ⟨(some 19), .conv .u64 (.t 18), none, []⟩,
         ⟨(some 20), .bin .plain .mul (.k (.int .u64 8)) (.t 19), none, []⟩,
         ⟨(some 5), .mv (.t 20), none, []⟩])
       (.seq
        (.seq
         (.reg [] [
           ⟨(some 6), .mv (.k (.int .i64 7)), none, []⟩])
         (.block 2 ir17j2
          (.loop ir17k1 ir17b1)))
        (.seq
         (.reg [] [
           ⟨(some 33), .mv (.t 3), none, []⟩,
           ⟨(some 34), .mv (.t 4), none, []⟩,
           ⟨(some 35), .app 3 5 1 1 (.t 33) (.t 34), none, []⟩,
           ⟨(some 2), .mv (.t 35), none, [35]⟩])
         .ret))))))),
  [.tmp 2], [], false⟩

/-- heartwood/heartwoodlaw02.CoderNumbers -/
def ir5 : Ev.Fn := ⟨1, 15, 0,
  (.seq
   (.reg [] [
     ⟨(some 2), .mv (.k (.bool false)), none, []⟩])
   (.seq
    (.reg [] [
      ⟨(some 3), .qcall 18 [(.k (.int .u64 248))] [], none, []⟩,
      ⟨(some 4), .b2s (.t 3), none, []⟩,
      ⟨(some 5), .bin .plain .eql (.t 4) (.k (.string ⟨#[248, 248]⟩)), none, []⟩,
      ⟨(some 6), .mv (.t 5), none, []⟩,
      ⟨(some 7), .mv (.t 0), (some (6, true)), []⟩,
      ⟨(some 8), .qcall 18 [(.t 7)] [], (some (6, true)), []⟩,
      ⟨(some 9), .b2s (.t 8), (some (6, true)), []⟩,
      ⟨(some 10), .mv (.t 0), (some (6, true)), []⟩,
      ⟨(some 11), .qcall 19 [(.t 10)] [], (some (6, true)), []⟩,
      ⟨(some 12), .b2s (.t 11), (some (6, true)), []⟩,
      ⟨(some 13), .bin .plain .eql (.t 9) (.t 12), (some (6, true)), []⟩,
      ⟨(some 14), .pick (.t 6) (.t 13) (.k (.bool false)), none, []⟩,
      ⟨(some 2), .mv (.t 14), none, []⟩])
    .ret)),
  [.tmp 2], [], false⟩

def ir18j1 : List Bool := [true, false, false, true, false, false, false, false, false, false, false, false, false, false, false, false, false, false, false, false, false, false, false, false, false, false, false, false, false, false, false, false, false, false, false, false, false, false, false, false, false, false, false]
def ir18k0 : List Bool := [true, false, false, true, false, false, false, false, false, false, false, false, false, false, false, false, false, false, false, false, false, false, false, false, false, false, false, false, false, false, false, false, false, false, false, false, false, false, false, false, false, false, false]
def ir18b0 : IR :=
  (.seq
   (.seq
    (.reg [] [
      ⟨(some 11), .mv (.t 3), none, []⟩,
      ⟨(some 12), .bin .plain .lss (.t 11) (.k (.int .i64 8)), none, []⟩,
      ⟨(some 13), .mv (.t 12), none, []⟩,
      ⟨(some 14), .mv (.t 0), (some (13, true)), []⟩,
      ⟨(some 15), .mv (.t 3), (some (13, true)), []⟩,
      ⟨(some 16), .bin .plain .mul (.k (.int .i64 8)) (.t 15), (some (13, true)), []⟩,
      ⟨(some 17), .bin .plain .shr (.t 14) (.t 16), (some (13, true)), []⟩,
      ⟨(some 18), .bin .plain .gtr (.t 17) (.k (.int .u64 0)), (some (13, true)), []⟩,
      ⟨(some 19), .pick (.t 13) (.t 18) (.k (.bool false)), none, []⟩])
    (.cond (.t 19)
     .skip
     (.exit 0)))
   (.block 1 ir18j1
    (.reg [] [
      ⟨(some 20), .mv (.t 3), none, []⟩,
      ⟨(some 21), .bin .plain .add (.t 20) (.k (.int .i64 1)), none, []⟩,
      ⟨(some 3), .mv (.t 21), none, []⟩])))

def ir18j0 : List Bool := [true, false, false, true, false, false, false, false, false, false, false, false, false, false, false, false, false, false, false, false, false, false, false, false, false, false, false, false, false, false, false, false, false, false, false, false, false, false, false, false, false, false, false]
def ir18j3 : List Bool := [true, false, false, true, true, false, false, false, false, false, false, false, false, false, false, false, false, false, false, false, false, false, false, false, false, false, true, true, false, false, false, false, false, false, false, false, false, false, false, false, false, false, false]
def ir18k1 : List Bool := [true, false, false, true, true, false, false, false, false, false, false, false, false, false, false, false, false, false, false, false, false, false, false, false, false, false, true, true, false, false, false, false, false, false, false, false, false, false, false, false, false, false, false]
def ir18b1 : IR :=
  (.seq
   (.reg [] [
     ⟨(some 28), .bin .plain .lss (.t 27) (.t 26), none, []⟩])
   (.seq
    (.cond (.t 28)
     .skip
     (.exit 2))
    (.seq
     (.block 3 ir18j3
      (.seq
       (.reg [] [
         ⟨(some 29), .mv (.t 27), none, []⟩,
         ⟨(some 5), .mv (.t 29), none, []⟩])
       (.reg [] [
         ⟨(some 30), .mv (.t 4), none, []⟩,
         ⟨(some 31), .mv (.t 0), none, []⟩,
         ⟨(some 32), .mv (.t 3), none, []⟩,
         ⟨(some 33), .bin .plain .sub (.t 32) (.k (.int .i64 1)), none, []⟩,
         ⟨(some 34), .mv (.t 5), none, []⟩,
         ⟨(some 35), .bin .plain .sub (.t 33) (.t 34), none, []⟩,
         ⟨(some 36), .bin .plain .mul (.k (.int .i64 8)) (.t 35), none, []⟩,
         ⟨(some 37), .bin .plain .shr (.t 31) (.t 36), none, []⟩,
         ⟨(some 38), .conv .u8 (.t 37), none, []⟩,
         ⟨(some 39), .litd 1 1 [(.int .u8 0)] [(0, (.t 38))], none, []⟩,
         ⟨(some 40), .app 1 5 1 1 (.t 30) (.t 39), none, []⟩,
         ⟨(some 4), .mv (.t 40), none, []⟩])))
     (.reg [] [
       ⟨(some 41), .bin .plain .add (.t 27) (.k (.int .i64 1)), none, []⟩,
       ⟨(some 27), .mv (.t 41), none, []⟩]))))

def ir18j2 : List Bool := [false, false, false, false, true, false, false, false, false, false, false, false, false, false, false, false, false, false, false, false, false, false, false, false, false, false, false, false, false, false, false, false, false, false, false, false, false, false, false, false, false, false, false]
/-- heartwood/coder.Number -/
def ir18 : Ev.Fn := ⟨1, 43, 2,
  (.seq
   (.reg [] [
     ⟨(some 2), .mv (.k (.slice none 0 0)), none, []⟩])
   (.seq
    (.seq
     (.reg [] [
       ⟨(some 6), .mv (.t 0), none, []⟩,
       ⟨(some 7), .bin .plain .leq (.t 6) (.k (.int .u64 247)), none, []⟩])
     (.cond (.t 7)
      (.seq
       (.reg [] [
         ⟨(some 8), .mv (.t 0), none, []⟩,
         ⟨(some 9), .conv .u8 (.t 8), none, []⟩,
         ⟨(some 10), .litd 1 1 [(.int .u8 0)] [(0, (.t 9))], none, []⟩,
         ⟨(some 2), .mv (.t 10), none, []⟩])
       .ret)
      .skip))
    (.seq
     (.reg [] [
       ⟨(some 3), .mv (.k (.int .i64 1)), none, []⟩])
     (.seq
      (.block 0 ir18j0
       (.loop ir18k0 ir18b0))
      (.seq
       (.reg [] [
         ⟨(some 22), .mv (.t 3), none, []⟩,
         ⟨(some 23), .bin .plain .add (.k (.int .i64 247)) (.t 22), none, []⟩,
         ⟨(some 24), .conv .u8 (.t 23), none, []⟩,
         ⟨(some 25), .lit 0 5 1 1 [(.int .u8 0)] [(0, (.t 24))], none, []⟩,
         ⟨(some 4), .mv (.t 25), none, []⟩])
       (.seq
        (.seq
         (.reg [] [
           ⟨(some 26), .mv (.t 3), none, []⟩,
           ⟨(some 27), .mv (.k (.int .i64 0)), none, []⟩])
         (.block 2 ir18j2
          (.loop ir18k1 ir18b1)))
        (.seq
         (.reg [] [
           ⟨(some 42), .mv (.t 4), none, []⟩,
           ⟨(some 2), .mv (.t 42), none, [42]⟩])
         .ret))))))),
  [.tmp 2], [], false⟩

def ir19j1 : List Bool := [true, false, false, true, false, false, false, false, false, false, false, false, false, false, false, false, false, false, false, false, false, false, false, false, false, false]
def ir19k0 : List Bool := [true, false, false, true, false, false, false, false, false, false, false, false, false, false, false, false, false, false, false, false, false, false, false, false, false, false]
def ir19b0 : IR :=
  (.seq
   (.seq
    (.reg [] [
      ⟨(some 9), .mv (.t 0), none, []⟩,
      ⟨(some 10), .bin .plain .gtr (.t 9) (.k (.int .u64 0)), none, []⟩])
    (.cond (.t 10)
     .skip
     (.exit 0)))
   (.block 1 ir19j1
    (.seq
     (.reg [] [
       ⟨(some 11), .mv (.t 0), none, []⟩,
       ⟨(some 12), .bin .plain .rem (.t 11) (.k (.int .u64 256)), none, []⟩,
       ⟨(some 13), .conv .u8 (.t 12), none, []⟩,
       ⟨(some 14), .lit 0 5 1 1 [(.int .u8 0)] [(0, (.t 13))], none, []⟩,
       ⟨(some 15), .mv (.t 3), none, []⟩,
       ⟨(some 16), .app 1 5 1 1 (.t 14) (.t 15), none, []⟩,
       ⟨(some 3), .mv (.t 16), none, [16]⟩])
     (.reg [] [
       ⟨(some 17), .mv (.t 0), none, []⟩,
       ⟨(some 18), .bin .plain .quo (.t 17) (.k (.int .u64 256)), none, []⟩,
       ⟨(some 0), .mv (.t 18), none, []⟩]))))

def ir19j0 : List Bool := [false, false, false, true, false, false, false, false, false, false, false, false, false, false, false, false, false, false, false, false, false, false, false, false, false, false]
/-- heartwood/heartwoodref02.Number -/
def ir19 : Ev.Fn := ⟨1, 26, 4,
  (.seq
   (.reg [] [
     ⟨(some 2), .mv (.k (.slice none 0 0)), none, []⟩])
   (.seq
    (.seq
     (.reg [] [
       ⟨(some 4), .mv (.t 0), none, []⟩,
       ⟨(some 5), .bin .plain .lss (.t 4) (.k (.int .u64 248)), none, []⟩])
     (.cond (.t 5)
      (.seq
       (.reg [] [
         ⟨(some 6), .mv (.t 0), none, []⟩,
         ⟨(some 7), .conv .u8 (.t 6), none, []⟩,
         ⟨(some 8), .litd 1 1 [(.int .u8 0)] [(0, (.t 7))], none, []⟩,
         ⟨(some 2), .mv (.t 8), none, []⟩])
       .ret)
      .skip))
    (.seq
     (.reg [] [
       ⟨(some 3), .mv (.k (.slice none 0 0)), none, []⟩])
     (.seq
      (.block 0 ir19j0
       (.loop ir19k0 ir19b0))
      (.seq
       (.reg [] [
         ⟨(some 19), .mv (.t 3), none, []⟩,
         ⟨(some 20), .len false (.t 19), none, []⟩,
         ⟨(some 21), .bin .plain .add (.k (.int .i64 247)) (.t 20), none, []⟩,
         ⟨(some 22), .conv .u8 (.t 21), none, []⟩,
         ⟨(some 23), .lit 2 5 1 1 [(.int .u8 0)] [(0, (.t 22))], none, []⟩,
         ⟨(some 24), .mv (.t 3), none, []⟩,
         ⟨(some 25), .app 3 5 1 1 (.t 23) (.t 24), none, []⟩,
         ⟨(some 2), .mv (.t 25), none, [25]⟩])
       .ret))))),
  [.tmp 2], [], false⟩

/-- heartwood/heartwoodlaw02.CoderBytes -/
def ir6 : Ev.Fn := ⟨1, 17, 1,
  (.seq
   (.reg [] [
     ⟨(some 2), .mv (.k (.bool false)), none, []⟩])
   (.seq
    (.reg [] [
      ⟨(some 3), .lit 0 5 1 1 [(.int .u8 0)] [(0, (.k (.int .u8 97)))], none, []⟩,
      ⟨(some 4), .markb (.t 3), none, []⟩,
      ⟨(some 5), .qcall 20 [(.t 4)] [], none, []⟩,
      ⟨(some 6), .b2s (.t 5), none, []⟩,
      ⟨(some 7), .bin .plain .eql (.t 6) (.k (.string ⟨#[1, 97]⟩)), none, []⟩,
      ⟨(some 8), .mv (.t 7), none, []⟩,
      ⟨(some 9), .mv (.t 0), (some (8, true)), []⟩,
      ⟨(some 10), .qcall 20 [(.t 9)] [], (some (8, true)), []⟩,
      ⟨(some 11), .b2s (.t 10), (some (8, true)), []⟩,
      ⟨(some 12), .mv (.t 0), (some (8, true)), []⟩,
      ⟨(some 13), .qcall 21 [(.t 12)] [], (some (8, true)), []⟩,
      ⟨(some 14), .b2s (.t 13), (some (8, true)), []⟩,
      ⟨(some 15), .bin .plain .eql (.t 11) (.t 14), (some (8, true)), []⟩,
      ⟨(some 16), .pick (.t 8) (.t 15) (.k (.bool false)), none, []⟩,
      ⟨(some 2), .mv (.t 16), none, []⟩])
    .ret)),
  [.tmp 2], [], false⟩

/-- heartwood/coder.Bytes -/
def ir20 : Ev.Fn := ⟨1, 9, 1,
  (.seq
   (.reg [] [
     ⟨(some 2), .mv (.k (.slice none 0 0)), none, []⟩])
   (.seq
    (.reg [] [
      ⟨(some 3), .mv (.t 0), none, []⟩,
      ⟨(some 4), .len false (.t 3), none, []⟩,
      ⟨(some 5), .conv .u64 (.t 4), none, []⟩,
      ⟨(some 6), .qcall 18 [(.t 5)] [], none, []⟩,
      ⟨(some 7), .mv (.t 0), none, []⟩,
      ⟨(some 8), .app 0 5 1 1 (.t 6) (.t 7), none, []⟩,
      ⟨(some 2), .mv (.t 8), none, [8]⟩])
    .ret)),
  [.tmp 2], [], false⟩

/-- heartwood/heartwoodref02.Bytes -/
def ir21 : Ev.Fn := ⟨1, 9, 1,
  (.seq
   (.reg [] [
     ⟨(some 2), .mv (.k (.slice none 0 0)), none, []⟩])
   (.seq
    (.reg [] [
      ⟨(some 3), .mv (.t 0), none, []⟩,
      ⟨(some 4), .len false (.t 3), none, []⟩,
      ⟨(some 5), .conv .u64 (.t 4), none, []⟩,
      ⟨(some 6), .qcall 19 [(.t 5)] [], none, []⟩,
      ⟨(some 7), .mv (.t 0), none, []⟩,
      ⟨(some 8), .app 0 5 1 1 (.t 6) (.t 7), none, []⟩,
      ⟨(some 2), .mv (.t 8), none, [8]⟩])
    .ret)),
  [.tmp 2], [], false⟩

def ir7j1 : List Bool := [false, false, false, false, false, true, false, true, true, false, false, false, false, false, false, false, false, false, false, false, false, false, false, false, false, false, false, false, false, false, false, false, false, false, false, false, false, false, false, false, false, false, false, false, false, false, false, false, false, false, false, false, false, false, false, false, false, false, false]
def ir7k0 : List Bool := [false, false, false, false, false, true, false, true, true, false, false, false, false, false, false, false, false, false, false, false, false, false, false, false, false, false, false, false, false, false, false, false, false, false, false, false, false, false, false, false, false, false, false, false, false, false, false, false, false, false, false, false, false, false, false, false, false, false, false]
def ir7b0 : IR :=
  (.seq
   (.seq
    (.reg [] [
      ⟨(some 46), .mv (.t 8), none, []⟩,
      ⟨(some 47), .bin .plain .lss (.t 46) (.k (.int .i64 64)), none, []⟩])
    (.cond (.t 47)
     .skip
     (.exit 0)))
   (.seq
    (.block 1 ir7j1
     (.seq
      (.reg [] [
        ⟨(some 50), .mv (.t 5), none, []⟩,
        ⟨(some 51), .mv (.t 8), none, []⟩,
        ⟨(some 52), .ia 1 (.t 50) (.t 51), none, []⟩,
        ⟨(some 53), .load false 1 (.t 52), none, []⟩,
        ⟨(some 54), .mv (.t 7), none, []⟩,
        ⟨(some 55), .mv (.t 8), none, []⟩,
        ⟨(some 56), .ia 1 (.t 54) (.t 55), none, []⟩,
        ⟨(some 57), .load false 1 (.t 56), none, []⟩,
        ⟨(some 58), .bin .plain .neq (.t 53) (.t 57), none, []⟩])
      (.cond (.t 58)
       (.seq
        (.reg [] [
          ⟨(some 2), .mv (.k (.bool false)), none, []⟩])
        .ret)
       .skip)))
    (.reg [] [
      ⟨(some 48), .mv (.t 8), none, []⟩,
      ⟨(some 49), .bin .plain .add (.t 48) (.k (.int .i64 1)), none, []⟩,
      ⟨(some 8), .mv (.t 49), none, []⟩])))

def ir7j0 : List Bool := [false, false, false, false, false, false, false, false, false, false, false, false, false, false, false, false, false, false, false, false, false, false, false, false, false, false, false, false, false, false, false, false, false, false, false, false, false, false, false, false, false, false, false, false, false, false, false, false, false, false, false, false, false, false, false, false, false, false, false]
/-- heartwood/heartwoodlaw01.ShaWords -/
def ir7 : Ev.Fn := ⟨1, 59, 1,
  (.seq
   (.reg [] [
     ⟨(some 2), .mv (.k (.bool false)), none, []⟩])
   (.seq
    (.reg [] [
      ⟨(some 10), .make 0 5 1 1 [(.int .u8 0)] (.k (.int .i64 64)) (.k (.int .i64 64)), none, []⟩,
      ⟨(some 11), .qcall 22 [(.t 10)] [], none, [10]⟩,
      ⟨(some 9), .mv (.t 11), none, []⟩,
      ⟨(some 12), .ext 0 (.t 9), none, []⟩,
      ⟨(some 13), .ext 1 (.t 9), none, []⟩,
      ⟨(some 3), .mv (.t 12), none, []⟩,
      ⟨(some 4), .mv (.t 13), none, []⟩])
    (.seq
     (.reg [] [
       ⟨(some 15), .mv (.t 0), none, []⟩,
       ⟨(some 16), .qcall 22 [(.t 15)] [], none, []⟩,
       ⟨(some 14), .mv (.t 16), none, []⟩,
       ⟨(some 17), .ext 0 (.t 14), none, []⟩,
       ⟨(some 18), .ext 1 (.t 14), none, []⟩,
       ⟨(some 5), .mv (.t 17), none, []⟩,
       ⟨(some 6), .mv (.t 18), none, []⟩])
     (.seq
      (.seq
       (.reg [] [
         ⟨(some 19), .mv (.t 3), none, []⟩,
         ⟨(some 20), .len false (.t 19), none, []⟩,
         ⟨(some 21), .bin .plain .neq (.t 20) (.k (.int .i64 64)), none, []⟩,
         ⟨(some 22), .mv (.t 21), none, []⟩,
         ⟨(some 23), .mv (.t 4), (some (22, false)), []⟩,
         ⟨(some 24), .bin (.iface 31 true) .neq (.t 23) (.k .nilIface), (some (22, false)), []⟩,
         ⟨(some 25), .pick (.t 22) (.k (.bool true)) (.t 24), none, []⟩])
       (.cond (.t 25)
        (.seq
         (.reg [] [
           ⟨(some 2), .mv (.k (.bool false)), none, []⟩])
         .ret)
        .skip))
      (.seq
       (.seq
        (.reg [] [
          ⟨(some 26), .mv (.t 0), none, []⟩,
          ⟨(some 27), .len false (.t 26), none, []⟩,
          ⟨(some 28), .bin .plain .neq (.t 27) (.k (.int .i64 64)), none, []⟩])
        (.cond (.t 28)
         (.seq
          (.reg [] [
            ⟨(some 29), .mv (.t 6), none, []⟩,
            ⟨(some 30), .mki 31 (.k (.int .i64 1)), none, []⟩,
            ⟨(some 31), .bin (.iface 31 false) .eql (.t 29) (.t 30), none, []⟩,
            ⟨(some 32), .mv (.t 31), none, []⟩,
            ⟨(some 33), .mv (.t 5), (some (32, true)), []⟩,
            ⟨(some 34), .len false (.t 33), (some (32, true)), []⟩,
            ⟨(some 35), .bin .plain .eql (.t 34) (.k (.int .i64 0)), (some (32, true)), []⟩,
            ⟨(some 36), .pick (.t 32) (.t 35) (.k (.bool false)), none, []⟩,
            ⟨(some 2), .mv (.t 36), none, []⟩])
          .ret)
         .skip))
       (.seq
        (.reg [] [
          ⟨(some 37), .mv (.t 0), none, []⟩,
          ⟨(some 38), .qcall 23 [(.t 37)] [], none, []⟩,
          ⟨(some 7), .mv (.t 38), none, []⟩])
        (.seq
         (.seq
          (.reg [] [
            ⟨(some 39), .mv (.t 6), none, []⟩,
            ⟨(some 40), .bin (.iface 31 true) .neq (.t 39) (.k .nilIface), none, []⟩,
            ⟨(some 41), .mv (.t 40), none, []⟩,
            ⟨(some 42), .mv (.t 5), (some (41, false)), []⟩,
            ⟨(some 43), .len false (.t 42), (some (41, false)), []⟩,
            ⟨(some 44), .bin .plain .neq (.t 43) (.k (.int .i64 64)), (some (41, false)), []⟩,
            ⟨(some 45), .pick (.t 41) (.k (.bool true)) (.t 44), none, []⟩])
          (.cond (.t 45)
           (.seq
            (.reg [] [
              ⟨(some 2), .mv (.k (.bool false)), none, []⟩])
            .ret)
           .skip))
         (.seq
          (.seq
           (.reg [] [
             ⟨(some 8), .mv (.k (.int .i64 0)), none, []⟩])
           (.block 0 ir7j0
            (.loop ir7k0 ir7b0)))
          (.seq
           (.reg [] [
             ⟨(some 2), .mv (.k (.bool true)), none, []⟩])
           .ret))))))))),
  [.tmp 2], [], false⟩

def ir22j1 : List Bool := [false, false, false, false, true, false, false, false, false, false, false, false, false, false, false, false, false, true, true, true, false, false, false, false, false, false, false, false, false, false, false, false, false, false, false, false, false, false, false, false, false, false, false, false, false, false, false, false, false, false, false, false, false, false, false, false, false, false, false, false, false, false, false, false, false, false, false, false, false, false, false, false, false, false, false, false, false, false, false, false, false, false, false, false, false, false, false]
def ir22k0 : List Bool := [false, false, false, false, true, false, false, false, false, false, false, false, false, false, false, false, false, true, true, true, false, false, false, false, false, false, false, false, false, false, false, false, false, false, false, false, false, false, false, false, false, false, false, false, false, false, false, false, false, false, false, false, false, false, false, false, false, false, false, false, false, false, false, false, false, false, false, false, false, false, false, false, false, false, false, false, false, false, false, false, false, false, false, false, false, false, false]
def ir22b0 : IR :=
  (.seq
   (.reg [] [
     ⟨(some 20), .bin .plain .lss (.t 19) (.t 18), none, []⟩])
   (.seq
    (.cond (.t 20)
     .skip
     (.exit 0))
    (.seq
     (.block 1 ir22j1
      (.seq
       (.reg [] [
         ⟨(some 21), .mv (.t 19), none, []⟩,
         ⟨(some 22), .ia 1 (.t 17) (.t 19), none, []⟩,
         ⟨(some 23), .load false 1 (.t 22), none, []⟩,
         ⟨(some 5), .mv (.t 21), none, []⟩,
         ⟨(some 6), .mv (.t 23), none, []⟩])
       (.reg [] [
         ⟨(some 24), .mv (.t 4), none, []⟩,
         ⟨(some 25), .mv (.t 5), none, []⟩,
         ⟨(some 26), .bin .plain .quo (.t 25) (.k (.int .i64 4)), none, []⟩,
         ⟨(some 27), .mv (.t 4), none, []⟩,
         ⟨(some 28), .mv (.t 5), none, []⟩,
         ⟨(some 29), .bin .plain .quo (.t 28) (.k (.int .i64 4)), none, []⟩,
         ⟨(some 30), .ia 1 (.t 27) (.t 29), none, []⟩,
         ⟨(some 31), .load false 1 (.t 30), none, []⟩,
         ⟨(some 32), .bin .plain .shl (.t 31) (.k (.int .u64 8)), none, []⟩,
         ⟨(some 33), .mv (.t 6), none, []⟩,
         ⟨(some 34), .conv .u32 (.t 33), none, []⟩,
         ⟨(some 35), .bin .plain .or (.t 32) (.t 34), none, []⟩,
         ⟨(some 36), .ia 1 (.t 24) (.t 26), none, []⟩,
         ⟨none, .store 1 (.t 36) (.t 35), none, []⟩])))
     (.reg [] [
       ⟨(some 37), .bin .plain .add (.t 19) (.k (.int .i64 1)), none, []⟩,
       ⟨(some 19), .mv (.t 37), none, []⟩]))))

def ir22j0 : List Bool := [false, false, false, false, true, false, false, false, false, false, false, false, false, false, false, false, false, false, false, false, false, false, false, false, false, false, false, false, false, false, false, false, false, false, false, false, false, false, false, false, false, false, false, false, false, false, false, false, false, false, false, false, false, false, false, false, false, false, false, false, false, false, false, false, false, false, false, false, false, false, false, false, false, false, false, false, false, false, false, false, false, false, false, false, false, false, false]
def ir22j3 : List Bool := [false, false, false, false, true, false, false, true, false, false, false, false, false, false, false, false, false, false, false, false, false, false, false, false, false, false, false, false, false, false, false, false, false, false, false, false, false, false, false, false, false, false, false, false, false, false, false, false, false, false, false, false, false, false, false, false, false, false, false, false, false, false, false, false, false, false, false, false, false, false, false, false, false, false, false, false, false, false, false, false, false, false, false, false, false, false, false]
def ir22k1 : List Bool := [false, false, false, false, true, false, false, true, false, false, false, false, false, false, false, false, false, false, false, false, false, false, false, false, false, false, false, false, false, false, false, false, false, false, false, false, false, false, false, false, false, false, false, false, false, false, false, false, false, false, false, false, false, false, false, false, false, false, false, false, false, false, false, false, false, false, false, false, false, false, false, false, false, false, false, false, false, false, false, false, false, false, false, false, false, false, false]
def ir22b1 : IR :=
  (.seq
   (.seq
    (.reg [] [
      ⟨(some 38), .mv (.t 7), none, []⟩,
      ⟨(some 39), .bin .plain .lss (.t 38) (.k (.int .i64 64)), none, []⟩])
    (.cond (.t 39)
     .skip
     (.exit 2)))
   (.seq
    (.block 3 ir22j3
     (.seq
      (.reg [] [
        ⟨(some 42), .mv (.t 4), none, []⟩,
        ⟨(some 43), .mv (.t 7), none, []⟩,
        ⟨(some 44), .bin .plain .sub (.t 43) (.k (.int .i64 15)), none, []⟩,
        ⟨(some 45), .ia 1 (.t 42) (.t 44), none, []⟩,
        ⟨(some 46), .load false 1 (.t 45), none, []⟩,
        ⟨(some 47), .mv (.t 4), none, []⟩,
        ⟨(some 48), .mv (.t 7), none, []⟩,
        ⟨(some 49), .bin .plain .sub (.t 48) (.k (.int .i64 2)), none, []⟩,
        ⟨(some 50), .ia 1 (.t 47) (.t 49), none, []⟩,
        ⟨(some 51), .load false 1 (.t 50), none, []⟩,
        ⟨(some 8), .mv (.t 46), none, []⟩,
        ⟨(some 9), .mv (.t 51), none, []⟩])
      (.seq
       (.reg [] [
         ⟨(some 52), .mv (.t 8), none, []⟩,
         ⟨(some 53), .qcall 44 [(.t 52), (.k (.int .i64 (-7)))] [], none, []⟩,
         ⟨(some 54), .mv (.t 8), none, []⟩,
         ⟨(some 55), .qcall 44 [(.t 54), (.k (.int .i64 (-18)))] [], none, []⟩,
         ⟨(some 56), .bin .plain .xor (.t 53) (.t 55), none, []⟩,
         ⟨(some 57), .mv (.t 8), none, []⟩,
         ⟨(some 58), .bin .plain .shr (.t 57) (.k (.int .u64 3)), none, []⟩,
         ⟨(some 59), .bin .plain .xor (.t 56) (.t 58), none, []⟩,
         ⟨(some 10), .mv (.t 59), none, []⟩])
       (.seq
        (.reg [] [
          ⟨(some 60), .mv (.t 9), none, []⟩,
          ⟨(some 61), .qcall 44 [(.t 60), (.k (.int .i64 (-17)))] [], none, []⟩,
          ⟨(some 62), .mv (.t 9), none, []⟩,
          ⟨(some 63), .qcall 44 [(.t 62), (.k (.int .i64 (-19)))] [], none, []⟩,
          ⟨(some 64), .bin .plain .xor (.t 61) (.t 63), none, []⟩,
          ⟨(some 65), .mv (.t 9), none, []⟩,
          ⟨(some 66), .bin .plain .shr (.t 65) (.k (.int .u64 10)), none, []⟩,
          ⟨(some 67), .bin .plain .xor (.t 64) (.t 66), none, []⟩,
          ⟨(some 11), .mv (.t 67), none, []⟩])
        (.reg [] [
          ⟨(some 68), .mv (.t 4), none, []⟩,
          ⟨(some 69), .mv (.t 7), none, []⟩,
          ⟨(some 70), .mv (.t 4), none, []⟩,
          ⟨(some 71), .mv (.t 7), none, []⟩,
          ⟨(some 72), .bin .plain .sub (.t 71) (.k (.int .i64 16)), none, []⟩,
          ⟨(some 73), .ia 1 (.t 70) (.t 72), none, []⟩,
          ⟨(some 74), .load false 1 (.t 73), none, []⟩,
          ⟨(some 75), .mv (.t 10), none, []⟩,
          ⟨(some 76), .bin .plain .add (.t 74) (.t 75), none, []⟩,
          ⟨(some 77), .mv (.t 4), none, []⟩,
          ⟨(some 78), .mv (.t 7), none, []⟩,
          ⟨(some 79), .bin .plain .sub (.t 78) (.k (.int .i64 7)), none, []⟩,
          ⟨(some 80), .ia 1 (.t 77) (.t 79), none, []⟩,
          ⟨(some 81), .load false 1 (.t 80), none, []⟩,
          ⟨(some 82), .bin .plain .add (.t 76) (.t 81), none, []⟩,
          ⟨(some 83), .mv (.t 11), none, []⟩,
          ⟨(some 84), .bin .plain .add (.t 82) (.t 83), none, []⟩,
          ⟨(some 85), .ia 1 (.t 68) (.t 69), none, []⟩,
          ⟨none, .store 1 (.t 85) (.t 84), none, []⟩])))))
    (.reg [] [
      ⟨(some 40), .mv (.t 7), none, []⟩,
      ⟨(some 41), .bin .plain .add (.t 40) (.k (.int .i64 1)), none, []⟩,
      ⟨(some 7), .mv (.t 41), none, []⟩])))

def ir22j2 : List Bool := [false, false, false, false, true, false, false, false, false, false, false, false, false, false, false, false, false, false, false, false, false, false, false, false, false, false, false, false, false, false, false, false, false, false, false, false, false, false, false, false, false, false, false, false, false, false, false, false, false, false, false, false, false, false, false, false, false, false, false, false, false, false, false, false, false, false, false, false, false, false, false, false, false, false, false, false, false, false, false, false, false, false, false, false, false, false, false]
/-- heartwood/sha.Words -/
def ir22 : Ev.Fn := ⟨1, 87, 1,
  (.seq
   (.reg [] [
     ⟨(some 2), .mv (.k (.slice none 0 0)), none, []⟩,
     ⟨(some 3), .mv (.k .nilIface), none, []⟩])
   (.seq
    (.seq
     (.reg [] [
       ⟨(some 12), .mv (.t 0), none, []⟩,
       ⟨(some 13), .len false (.t 12), none, []⟩,
       ⟨(some 14), .bin .plain .neq (.t 13) (.k (.int .i64 64)), none, []⟩])
     (.cond (.t 14)
      (.seq
       (.reg [] [
         ⟨(some 15), .mki 31 (.k (.int .i64 1)), none, []⟩,
         ⟨(some 2), .mv (.k (.slice none 0 0)), none, []⟩,
         ⟨(some 3), .mv (.t 15), none, []⟩])
       .ret)
      .skip))
    (.seq
     (.reg [] [
       ⟨(some 16), .make 0 22 1 4 [(.int .u32 0)] (.k (.int .i64 64)) (.k (.int .i64 64)), none, []⟩,
       ⟨(some 4), .mv (.t 16), none, []⟩])
     (.seq
      (.seq
       (.reg [] [
         ⟨(some 17), .mv (.t 0), none, []⟩,
         ⟨(some 18), .len false (.t 17), none, []⟩,
         ⟨(some 19), .mv (.k (.int .i64 0)), none, []⟩])
       (.block 0 ir22j0
        (.loop ir22k0 ir22b0)))
      (.seq
       (.seq
        (.reg [] [
          ⟨(some 7), .mv (.k (.int .i64 16)), none, []⟩])
        (.block 2 ir22j2
         (.loop ir22k1 ir22b1)))
       (.seq
        (.reg [] [
          ⟨(some 86), .mv (.t 4), none, []⟩,
          ⟨(some 2), .mv (.t 86), none, [86]⟩,
          ⟨(some 3), .mv (.k .nilIface), none, []⟩])
        .ret)))))),
  [.tmp 2, .tmp 3], [], false⟩

def ir23j3 : List Bool := [true, false, false, true, true, true, true, false, false, false, false, false, false, false, false, false, false, false, false, false, false, false, false, false, false, false, false, false, false, false, false, false, false, false, false, false, false, false, false, false, false, false, false, false, false, false, false, false, false, false, false, false, false, false, false, false, false, false, false, false, false, false, false, false, false, false, false, false, false, false, false, false, false, false, false, false, false, false, false, false, false, false, false, false, false, false, false, false, false, false, false, false, false, false, false, false]
def ir23k1 : List Bool := [true, false, false, true, true, true, true, false, false, false, false, false, false, false, false, false, false, false, false, false, false, false, false, false, false, false, false, false, false, false, false, false, false, false, false, false, false, false, false, false, false, false, false, false, false, false, false, false, false, false, false, false, false, false, false, false, false, false, false, false, false, false, false, false, false, false, false, false, false, false, false, false, false, false, false, false, false, false, false, false, false, false, false, false, false, false, false, false, false, false, false, false, false, false, false, false]
def ir23b1 : IR :=
  (.seq
   (.seq
    (.reg [] [
      ⟨(some 14), .mv (.t 6), none, []⟩,
      ⟨(some 15), .bin .plain .lss (.t 14) (.k (.int .i64 4)), none, []⟩])
    (.cond (.t 15)
     .skip
     (.exit 2)))
   (.seq
    (.block 3 ir23j3
     (.reg [] [
       ⟨(some 18), .mv (.t 5), none, []⟩,
       ⟨(some 19), .bin .plain .mul (.k (.int .u32 256)) (.t 18), none, []⟩,
       ⟨(some 20), .mv (.t 0), none, []⟩,
       ⟨(some 21), .mv (.t 4), none, []⟩,
       ⟨(some 22), .bin .plain .mul (.k (.int .i64 4)) (.t 21), none, []⟩,
       ⟨(some 23), .mv (.t 6), none, []⟩,
       ⟨(some 24), .bin .plain .add (.t 22) (.t 23), none, []⟩,
       ⟨(some 25), .ia 1 (.t 20) (.t 24), none, []⟩,
       ⟨(some 26), .load false 1 (.t 25), none, []⟩,
       ⟨(some 27), .conv .u32 (.t 26), none, []⟩,
       ⟨(some 28), .bin .plain .add (.t 19) (.t 27), none, []⟩,
       ⟨(some 5), .mv (.t 28), none, []⟩]))
    (.reg [] [
      ⟨(some 16), .mv (.t 6), none, []⟩,
      ⟨(some 17), .bin .plain .add (.t 16) (.k (.int .i64 1)), none, []⟩,
      ⟨(some 6), .mv (.t 17), none, []⟩])))

def ir23j2 : List Bool := [true, false, false, true, true, true, false, false, false, false, false, false, false, false, false, false, false, false, false, false, false, false, false, false, false, false, false, false, false, false, false, false, false, false, false, false, false, false, false, false, false, false, false, false, false, false, false, false, false, false, false, false, false, false, false, false, false, false, false, false, false, false, false, false, false, false, false, false, false, false, false, false, false, false, false, false, false, false, false, false, false, false, false, false, false, false, false, false, false, false, false, false, false, false, false, false]
def ir23j1 : List Bool := [true, false, false, true, true, false, false, false, false, false, false, false, false, false, false, false, false, false, false, false, false, false, false, false, false, false, false, false, false, false, false, false, false, false, false, false, false, false, false, false, false, false, false, false, false, false, false, false, false, false, false, false, false, false, false, false, false, false, false, false, false, false, false, false, false, false, false, false, false, false, false, false, false, false, false, false, false, false, false, false, false, false, false, false, false, false, false, false, false, false, false, false, false, false, false, false]
def ir23k0 : List Bool := [true, false, false, true, true, false, false, false, false, false, false, false, false, false, false, false, false, false, false, false, false, false, false, false, false, false, false, false, false, false, false, false, false, false, false, false, false, false, false, false, false, false, false, false, false, false, false, false, false, false, false, false, false, false, false, false, false, false, false, false, false, false, false, false, false, false, false, false, false, false, false, false, false, false, false, false, false, false, false, false, false, false, false, false, false, false, false, false, false, false, false, false, false, false, false, false]
def ir23b0 : IR :=
  (.seq
   (.seq
    (.reg [] [
      ⟨(some 10), .mv (.t 4), none, []⟩,
      ⟨(some 11), .bin .plain .lss (.t 10) (.k (.int .i64 16)), none, []⟩])
    (.cond (.t 11)
     .skip
     (.exit 0)))
   (.seq
    (.block 1 ir23j1
     (.seq
      (.reg [] [
        ⟨(some 5), .mv (.k (.int .u32 0)), none, []⟩])
      (.seq
       (.seq
        (.reg [] [
          ⟨(some 6), .mv (.k (.int .i64 0)), none, []⟩])
        (.block 2 ir23j2
         (.loop ir23k1 ir23b1)))
       (.reg [] [
         ⟨(some 29), .mv (.t 3), none, []⟩,
         ⟨(some 30), .mv (.t 5), none, []⟩,
         ⟨(some 31), .litd 1 1 [(.int .u32 0)] [(0, (.t 30))], none, []⟩,
         ⟨(some 32), .app 0 22 1 4 (.t 29) (.t 31), none, []⟩,
         ⟨(some 3), .mv (.t 32), none, []⟩]))))
    (.reg [] [
      ⟨(some 12), .mv (.t 4), none, []⟩,
      ⟨(some 13), .bin .plain .add (.t 12) (.k (.int .i64 1)), none, []⟩,
      ⟨(some 4), .mv (.t 13), none, []⟩])))

def ir23j0 : List Bool := [false, false, false, true, false, false, false, false, false, false, false, false, false, false, false, false, false, false, false, false, false, false, false, false, false, false, false, false, false, false, false, false, false, false, false, false, false, false, false, false, false, false, false, false, false, false, false, false, false, false, false, false, false, false, false, false, false, false, false, false, false, false, false, false, false, false, false, false, false, false, false, false, false, false, false, false, false, false, false, false, false, false, false, false, false, false, false, false, false, false, false, false, false, false, false, false]
def ir23j5 : List Bool := [false, false, false, true, false, false, false, true, false, false, false, false, false, false, false, false, false, false, false, false, false, false, false, false, false, false, false, false, false, false, false, false, false, false, false, false, false, false, false, false, false, false, false, false, false, false, false, false, false, false, false, false, false, false, false, false, false, false, false, false, false, false, false, false, false, false, false, false, false, false, false, false, false, false, false, false, false, false, false, false, false, false, false, false, false, false, false, false, false, false, false, false, false, false, false, false]
def ir23k2 : List Bool := [false, false, false, true, false, false, false, true, false, false, false, false, false, false, false, false, false, false, false, false, false, false, false, false, false, false, false, false, false, false, false, false, false, false, false, false, false, false, false, false, false, false, false, false, false, false, false, false, false, false, false, false, false, false, false, false, false, false, false, false, false, false, false, false, false, false, false, false, false, false, false, false, false, false, false, false, false, false, false, false, false, false, false, false, false, false, false, false, false, false, false, false, false, false, false, false]
def ir23b2 : IR :=
  (.seq
   (.seq
    (.reg [] [
      ⟨(some 33), .mv (.t 7), none, []⟩,
      ⟨(some 34), .bin .plain .lss (.t 33) (.k (.int .i64 64)), none, []⟩])
    (.cond (.t 34)
     .skip
     (.exit 4)))
   (.seq
    (.block 5 ir23j5
     (.seq
      (.reg [] [
        ⟨(some 37), .mv (.t 3), none, []⟩,
        ⟨(some 38), .mv (.t 7), none, []⟩,
        ⟨(some 39), .bin .plain .sub (.t 38) (.k (.int .i64 15)), none, []⟩,
        ⟨(some 40), .ia 1 (.t 37) (.t 39), none, []⟩,
        ⟨(some 41), .load false 1 (.t 40), none, []⟩,
        ⟨(some 42), .qcall 45 [(.t 41), (.k (.int .i64 7))] [], none, []⟩,
        ⟨(some 43), .mv (.t 3), none, []⟩,
        ⟨(some 44), .mv (.t 7), none, []⟩,
        ⟨(some 45), .bin .plain .sub (.t 44) (.k (.int .i64 15)), none, []⟩,
        ⟨(some 46), .ia 1 (.t 43) (.t 45), none, []⟩,
        ⟨(some 47), .load false 1 (.t 46), none, []⟩,
        ⟨(some 48), .qcall 45 [(.t 47), (.k (.int .i64 18))] [], none, []⟩,
        ⟨(some 49), .bin .plain .xor (.t 42) (.t 48), none, []⟩,
        ⟨(some 50), .mv (.t 3), none, []⟩,
        ⟨(some 51), .mv (.t 7), none, []⟩,
        ⟨(some 52), .bin .plain .sub (.t 51) (.k (.int .i64 15)), none, []⟩,
        ⟨(some 53), .ia 1 (.t 50) (.t 52), none, []⟩,
        ⟨(some 54), .load false 1 (.t 53), none, []⟩,
        ⟨(some 55), .bin .plain .shr (.t 54) (.k (.int .u64 3)), none, []⟩,
        ⟨(some 56), .bin .plain .xor (.t 49) (.t 55), none, []⟩,
        ⟨(some 8), .mv (.t 56), none, []⟩])
      (.seq
       (.reg [] [
         ⟨(some 57), .mv (.t 3), none, []⟩,
         ⟨(some 58), .mv (.t 7), none, []⟩,
         ⟨(some 59), .bin .plain .sub (.t 58) (.k (.int .i64 2)), none, []⟩,
         ⟨(some 60), .ia 1 (.t 57) (.t 59), none, []⟩,
         ⟨(some 61), .load false 1 (.t 60), none, []⟩,
         ⟨(some 62), .qcall 45 [(.t 61), (.k (.int .i64 17))] [], none, []⟩,
         ⟨(some 63), .mv (.t 3), none, []⟩,
         ⟨(some 64), .mv (.t 7), none, []⟩,
         ⟨(some 65), .bin .plain .sub (.t 64) (.k (.int .i64 2)), none, []⟩,
         ⟨(some 66), .ia 1 (.t 63) (.t 65), none, []⟩,
         ⟨(some 67), .load false 1 (.t 66), none, []⟩,
         ⟨(some 68), .qcall 45 [(.t 67), (.k (.int .i64 19))] [], none, []⟩,
         ⟨(some 69), .bin .plain .xor (.t 62) (.t 68), none, []⟩,
         ⟨(some 70), .mv (.t 3), none, []⟩,
         ⟨(some 71), .mv (.t 7), none, []⟩,
         ⟨(some 72), .bin .plain .sub (.t 71) (.k (.int .i64 2)), none, []⟩,
         ⟨(some 73), .ia 1 (.t 70) (.t 72), none, []⟩,
         ⟨(some 74), .load false 1 (.t 73), none, []⟩,
         ⟨(some 75), .bin .plain .shr (.t 74) (.k (.int .u64 10)), none, []⟩,
         ⟨(some 76), .bin .plain .xor (.t 69) (.t 75), none, []⟩,
         ⟨(some 9), .mv (.t 76), none, []⟩])
       (.reg [] [
         ⟨(some 77), .mv (.t 3), none, []⟩,
         ⟨(some 78), .mv (.t 3), none, []⟩,
         ⟨(some 79), .mv (.t 7), none, []⟩,
         ⟨(some 80), .bin .plain .sub (.t 79) (.k (.int .i64 16)), none, []⟩,
         ⟨(some 81), .ia 1 (.t 78) (.t 80), none, []⟩,
         ⟨(some 82), .load false 1 (.t 81), none, []⟩,
         ⟨(some 83), .mv (.t 8), none, []⟩,
         ⟨(some 84), .bin .plain .add (.t 82) (.t 83), none, []⟩,
         ⟨(some 85), .mv (.t 3), none, []⟩,
         ⟨(some 86), .mv (.t 7), none, []⟩,
         ⟨(some 87), .bin .plain .sub (.t 86) (.k (.int .i64 7)), none, []⟩,
         ⟨(some 88), .ia 1 (.t 85) (.t 87), none, []⟩,
         ⟨(some 89), .load false 1 (.t 88), none, []⟩,
         ⟨(some 90), .bin .plain .add (.t 84) (.t 89), none, []⟩,
         ⟨(some 91), .mv (.t 9), none, []⟩,
         ⟨(some 92), .bin .plain .add (.t 90) (.t 91), none, []⟩,
         ⟨(some 93), .litd 1 1 [(.int .u32 0)] [(0, (.t 92))], none, []⟩,
         ⟨(some 94), .app 1 22 1 4 (.t 77) (.t 93), none, []⟩,
         ⟨(some 3), .mv (.t 94), none, []⟩]))))
    (.reg [] [
      ⟨(some 35), .mv (.t 7), none, []⟩,
      ⟨(some 36), .bin .plain .add (.t 35) (.k (.int .i64 1)), none, []⟩,
      ⟨(some 7), .mv (.t 36), none, []⟩])))

def ir23j4 : List Bool := [false, false, false, true, false, false, false, false, false, false, false, false, false, false, false, false, false, false, false, false, false, false, false, false, false, false, false, false, false, false, false, false, false, false, false, false, false, false, false, false, false, false, false, false, false, false, false, false, false, false, false, false, false, false, false, false, false, false, false, false, false, false, false, false, false, false, false, false, false, false, false, false, false, false, false, false, false, false, false, false, false, false, false, false, false, false, false, false, false, false, false, false, false, false, false, false]
/-- heartwood/heartwoodref01.Words -/
def ir23 : Ev.Fn := ⟨1, 96, 2,
  (.seq
   (.reg [] [
     ⟨(some 2), .mv (.k (.slice none 0 0)), none, []⟩])
   (.seq
    (.reg [] [
      ⟨(some 3), .mv (.k (.slice none 0 0)), none, []⟩])
    (.seq
     (.seq
      (.reg [] [
        ⟨(some 4), .mv (.k (.int .i64 0)), none, []⟩])
      (.block 0 ir23j0
       (.loop ir23k0 ir23b0)))
     (.seq
      (.seq
       (.reg [] [
         ⟨(some 7), .mv (.k (.int .i64 16)), none, []⟩])
       (.block 4 ir23j4
        (.loop ir23k2 ir23b2)))
      (.seq
       (.reg [] [
         ⟨(some 95), .mv (.t 3), none, []⟩,
         ⟨(some 2), .mv (.t 95), none, [95]⟩])
       .ret))))),
  [.tmp 2], [], false⟩

/-- heartwood/heartwoodlaw02.CoderApart -/
def ir8 : Ev.Fn := ⟨3, 57, 4,
  (.seq
   (.reg [] [
     ⟨(some 6), .mv (.k (.bool false)), none, []⟩])
   (.seq
    (.reg [] [
      ⟨(some 11), .mv (.t 0), none, []⟩,
      ⟨(some 12), .qcall 18 [(.t 11)] [], none, []⟩,
      ⟨(some 7), .mv (.t 12), none, []⟩])
    (.seq
     (.reg [] [
       ⟨(some 13), .mv (.t 1), none, []⟩,
       ⟨(some 14), .qcall 18 [(.t 13)] [], none, []⟩,
       ⟨(some 8), .mv (.t 14), none, []⟩])
     (.seq
      (.seq
       (.reg [] [
         ⟨(some 15), .mv (.t 7), none, []⟩,
         ⟨(some 16), .len false (.t 15), none, []⟩,
         ⟨(some 17), .bin .plain .eql (.t 16) (.k (.int .i64 0)), none, []⟩,
         ⟨(some 18), .mv (.t 17), none, []⟩,
         ⟨(some 19), .mv (.t 8), (some (18, false)), []⟩,
         ⟨(some 20), .len false (.t 19), (some (18, false)), []⟩,
         ⟨(some 21), .bin .plain .eql (.t 20) (.k (.int .i64 0)), (some (18, false)), []⟩,
         ⟨(some 22), .pick (.t 18) (.k (.bool true)) (.t 21), none, []⟩])
       (.cond (.t 22)
        (.seq
         (.reg [] [
           ⟨(some 6), .mv (.k (.bool false)), none, []⟩])
         .ret)
        .skip))
      (.seq
       (.reg [] [
         ⟨(some 23), .mv (.t 7), none, []⟩,
         ⟨(some 24), .len false (.t 23), none, []⟩,
         ⟨(some 25), .mv (.t 8), none, []⟩,
         ⟨(some 26), .len false (.t 25), none, []⟩,
         ⟨(some 27), .bin .plain .leq (.t 24) (.t 26), none, []⟩,
         ⟨(some 28), .mv (.t 27), none, []⟩,
         ⟨(some 29), .mv (.t 8), (some (28, true)), []⟩,
         ⟨(some 30), .mv (.t 7), (some (28, true)), []⟩,
         ⟨(some 31), .len false (.t 30), (some (28, true)), []⟩,
         ⟨(some 32), .slice 1 (.t 29) none (some (.t 31)) none, (some (28, true)), []⟩,
         ⟨(some 33), .b2s (.t 32), (some (28, true)), []⟩,
         ⟨(some 34), .mv (.t 7), (some (28, true)), []⟩,
         ⟨(some 35), .b2s (.t 34), (some (28, true)), []⟩,
         ⟨(some 36), .bin .plain .eql (.t 33) (.t 35), (some (28, true)), []⟩,
         ⟨(some 37), .pick (.t 28) (.t 36) (.k (.bool false)), none, []⟩,
         ⟨(some 9), .mv (.t 37), none, []⟩])
       (.seq
        (.reg [] [
          ⟨(some 38), .lit 0 5 1 0 [(.int .u8 0)] [], none, []⟩,
          ⟨(some 39), .mv (.t 7), none, []⟩,
          ⟨(some 40), .app 1 5 1 1 (.t 38) (.t 39), none, []⟩,
          ⟨(some 41), .mv (.t 2), none, []⟩,
          ⟨(some 42), .app 2 5 1 1 (.t 40) (.t 41), none, []⟩,
          ⟨(some 43), .qcall 24 [(.t 42)] [3], none, [42]⟩,
          ⟨(some 10), .mv (.t 43), none, []⟩])
        (.seq
         (.seq
          (.reg [] [
            ⟨(some 44), .mv (.t 10), none, []⟩,
            ⟨(some 45), .bin .ptr .eql (.t 44) (.k (.pointer none)), none, []⟩])
          (.cond (.t 45)
           (.seq
            (.reg [] [
              ⟨(some 6), .mv (.k (.bool false)), none, []⟩])
            .ret)
           .skip))
         (.seq
          (.reg [] [
            ⟨(some 46), .mv (.t 9), none, []⟩,
            ⟨(some 47), .mv (.t 1), none, []⟩,
            ⟨(some 48), .mv (.t 0), none, []⟩,
            ⟨(some 49), .bin .plain .eql (.t 47) (.t 48), none, []⟩,
            ⟨(some 50), .bin .bool .eql (.t 46) (.t 49), none, []⟩,
            ⟨(some 51), .mv (.t 50), none, []⟩,
            ⟨(some 52), .mv (.t 10), (some (51, true)), []⟩,
            ⟨(some 53), .call 25 [(.t 52)] [], (some (51, true)), []⟩,
            ⟨(some 54), .mv (.t 0), (some (51, true)), []⟩,
            ⟨(some 55), .bin .plain .eql (.t 53) (.t 54), (some (51, true)), []⟩,
            ⟨(some 56), .pick (.t 51) (.t 55) (.k (.bool false)), none, []⟩,
            ⟨(some 6), .mv (.t 56), none, []⟩])
          .ret)))))))),
  [.tmp 6], [], false⟩

/-- heartwood/coder.NewReader -/
def ir24 : Ev.Fn := ⟨1, 7, 1,
  (.seq
   (.reg [] [
     ⟨(some 2), .mv (.k (.pointer none)), none, []⟩])
   (.seq
    (.reg [] [
      ⟨(some 3), .mv (.t 0), none, []⟩,
      ⟨(some 4), .qcall 46 [(.t 3)] [], none, []⟩,
      ⟨(some 5), .build [(.slice none 0 0), (.bool false)] [(0, 1, (.t 4))], none, []⟩,
      ⟨(some 6), .box 0 2 (.t 5), none, []⟩,
      ⟨(some 2), .mv (.t 6), none, []⟩])
    .ret)),
  [.tmp 2], [], false⟩

/-- slices.Clone[[]byte,byte] -/
def ir46 : Ev.Fn := ⟨1, 8, 2,
  (.seq
   (.reg [] [
     ⟨(some 2), .mv (.k (.slice none 0 0)), none, []⟩])
   (.seq
    (.seq
     (.reg [] [
       ⟨(some 3), .mv (.t 0), none, []⟩,
       ⟨(some 4), .bin .slice .eql (.t 3) (.k (.slice none 0 0)), none, []⟩])
     (.cond (.t 4)
      (.seq
       (.reg [] [
         ⟨(some 2), .mv (.k (.slice none 0 0)), none, []⟩])
       .ret)
      .skip))
    (.seq
     (.reg [] [
       ⟨(some 5), .lit 0 5 1 0 [(.int .u8 0)] [], none, []⟩,
       ⟨(some 6), .mv (.t 0), none, []⟩,
       ⟨(some 7), .app 1 5 1 1 (.t 5) (.t 6), none, []⟩,
       ⟨(some 2), .mv (.t 7), none, [7]⟩])
     .ret))),
  [.tmp 2], [], false⟩

def ir25j1 : List Bool := [true, false, false, false, true, true, false, false, false, false, false, false, false, false, false, false, false, false, false, true, true, true, false, false, false, false, false, false, false, false, false, false, false, false, false, false, false, false, false, false, false, false, false, false, false, false, false, false]
def ir25k0 : List Bool := [true, false, false, false, true, true, false, false, false, false, false, false, false, false, false, false, false, false, false, true, true, true, false, false, false, false, false, false, false, false, false, false, false, false, false, false, false, false, false, false, false, false, false, false, false, false, false, false]
def ir25b0 : IR :=
  (.seq
   (.reg [] [
     ⟨(some 22), .bin .plain .lss (.t 21) (.t 20), none, []⟩])
   (.seq
    (.cond (.t 22)
     .skip
     (.exit 0))
    (.seq
     (.block 1 ir25j1
      (.seq
       (.reg [] [
         ⟨(some 23), .ia 1 (.t 19) (.t 21), none, []⟩,
         ⟨(some 24), .load false 1 (.t 23), none, []⟩,
         ⟨(some 7), .mv (.t 24), none, []⟩])
       (.reg [] [
         ⟨(some 25), .mv (.t 5), none, []⟩,
         ⟨(some 26), .bin .plain .shl (.t 25) (.k (.int .u64 8)), none, []⟩,
         ⟨(some 27), .mv (.t 7), none, []⟩,
         ⟨(some 28), .conv .u64 (.t 27), none, []⟩,
         ⟨(some 29), .bin .plain .or (.t 26) (.t 28), none, []⟩,
         ⟨(some 5), .mv (.t 29), none, []⟩])))
     (.reg [] [
       ⟨(some 30), .bin .plain .add (.t 21) (.k (.int .i64 1)), none, []⟩,
       ⟨(some 21), .mv (.t 30), none, []⟩]))))

def ir25j0 : List Bool := [true, false, false, false, true, true, false, false, false, false, false, false, false, false, false, false, false, false, false, false, false, false, false, false, false, false, false, false, false, false, false, false, false, false, false, false, false, false, false, false, false, false, false, false, false, false, false, false]
/-- (*heartwood/coder.Reader).Number -/
def ir25 : Ev.Fn := ⟨1, 48, 0,
  (.seq
   (.reg [] [
     ⟨(some 2), .mv (.k (.int .u64 0)), none, []⟩])
   (.seq
    (.reg [] [
      ⟨(some 8), .mv (.t 0), none, []⟩,
      ⟨(some 9), .call 38 [(.t 8)] [], none, []⟩,
      ⟨(some 3), .mv (.t 9), none, []⟩])
    (.seq
     (.seq
      (.reg [] [
        ⟨(some 10), .mv (.t 3), none, []⟩,
        ⟨(some 11), .bin .plain .leq (.t 10) (.k (.int .u8 247)), none, []⟩])
      (.cond (.t 11)
       (.seq
        (.reg [] [
          ⟨(some 12), .mv (.t 3), none, []⟩,
          ⟨(some 13), .conv .u64 (.t 12), none, []⟩,
          ⟨(some 2), .mv (.t 13), none, []⟩])
        .ret)
       .skip))
     (.seq
      (.reg [] [
        ⟨(some 14), .mv (.t 0), none, []⟩,
        ⟨(some 15), .mv (.t 3), none, []⟩,
        ⟨(some 16), .conv .i64 (.t 15), none, []⟩,
        ⟨(some 17), .bin .plain .sub (.t 16) (.k (.int .i64 247)), none, []⟩,
        ⟨(some 18), .call 47 [(.t 14), (.t 17)] [], none, []⟩,
        ⟨(some 4), .mv (.t 18), none, []⟩])
      (.seq
       (.reg [] [
         ⟨(some 5), .mv (.k (.int .u64 0)), none, []⟩])
       (.seq
        (.seq
         (.reg [] [
           ⟨(some 19), .mv (.t 4), none, []⟩,
           ⟨(some 20), .len false (.t 19), none, []⟩,
           ⟨(some 21), .mv (.k (.int .i64 0)), none, []⟩])
         (.block 0 ir25j0
          (.loop ir25k0 ir25b0)))
        (.seq
         (.seq
          (.reg [] [
            ⟨(some 31), .mv (.t 4), none, []⟩,
            ⟨(some 32), .len false (.t 31), none, []⟩,
            ⟨(some 33), .bin .plain .eql (.t 32) (.k (.int .i64 0)), none, []⟩,
            ⟨(some 34), .mv (.t 33), none, []⟩,
            ⟨(some 35), .mv (.t 4), (some (34, false)), []⟩,
            ⟨(some 36), .ia 1 (.t 35) (.k (.int .i64 0)), (some (34, false)), []⟩,
            ⟨(some 37), .load false 1 (.t 36), (some (34, false)), []⟩,
            ⟨(some 38), .bin .plain .eql (.t 37) (.k (.int .u8 0)), (some (34, false)), []⟩,
            ⟨(some 39), .pick (.t 34) (.k (.bool true)) (.t 38), none, []⟩,
            ⟨(some 40), .mv (.t 39), none, []⟩,
            ⟨(some 41), .mv (.t 5), (some (40, false)), []⟩,
            ⟨(some 42), .bin .plain .leq (.t 41) (.k (.int .u64 247)), (some (40, false)), []⟩,
            ⟨(some 43), .pick (.t 40) (.k (.bool true)) (.t 42), none, []⟩])
          (.cond (.t 43)
           (.seq
            (.reg [] [
              ⟨(some 44), .mv (.t 0), none, []⟩,
              ⟨(some 45), .nilc (.t 44), none, []⟩,
              ⟨(some 46), .fa 1 (.t 45), none, []⟩,
              ⟨none, .store 1 (.t 46) (.k (.bool true)), none, []⟩])
            (.seq
             (.reg [] [
               ⟨(some 2), .mv (.k (.int .u64 0)), none, []⟩])
             .ret))
           .skip))
         (.seq
          (.reg [] [
            ⟨(some 47), .mv (.t 5), none, []⟩,
            ⟨(some 2), .mv (.t 47), none, []⟩])
          .ret)))))))),
  [.tmp 2], [], false⟩

/-- (*heartwood/coder.Reader).Byte -/
def ir38 : Ev.Fn := ⟨1, 12, 0,
  (.seq
   (.reg [] [
     ⟨(some 2), .mv (.k (.int .u8 0)), none, []⟩])
   (.seq
    (.reg [] [
      ⟨(some 4), .mv (.t 0), none, []⟩,
      ⟨(some 5), .call 47 [(.t 4), (.k (.int .i64 1))] [], none, []⟩,
      ⟨(some 3), .mv (.t 5), none, []⟩])
    (.seq
     (.seq
      (.reg [] [
        ⟨(some 6), .mv (.t 3), none, []⟩,
        ⟨(some 7), .len false (.t 6), none, []⟩,
        ⟨(some 8), .bin .plain .eql (.t 7) (.k (.int .i64 0)), none, []⟩])
      (.cond (.t 8)
       (.seq
        (.reg [] [
          ⟨(some 2), .mv (.k (.int .u8 0)), none, []⟩])
        .ret)
       .skip))
     (.seq
      (.reg [] [
        ⟨(some 9), .mv (.t 3), none, []⟩,
        ⟨(some 10), .ia 1 (.t 9) (.k (.int .i64 0)), none, []⟩,
        ⟨(some 11), .load false 1 (.t 10), none, []⟩,
        ⟨(some 2), .mv (.t 11), none, []⟩])
      .ret)))),
  [.tmp 2], [], false⟩

/-- (*heartwood/coder.Reader).take -/
def ir47 : Ev.Fn := ⟨2, 39, 0,
  (.seq
   (.reg [] [
     ⟨(some 4), .mv (.k (.slice none 0 0)), none, []⟩])
   (.seq
    (.seq
     (.reg [] [
       ⟨(some 6), .mv (.t 0), none, []⟩,
       ⟨(some 7), .nilc (.t 6), none, []⟩,
       ⟨(some 8), .fa 1 (.t 7), none, []⟩,
       ⟨(some 9), .load false 1 (.t 8), none, []⟩,
       ⟨(some 10), .mv (.t 9), none, []⟩,
       ⟨(some 11), .mv (.t 1), (some (10, false)), []⟩,
       ⟨(some 12), .mv (.t 0), (some (10, false)), []⟩,
       ⟨(some 13), .nilc (.t 12), (some (10, false)), []⟩,
       ⟨(some 14), .fa 0 (.t 13), (some (10, false)), []⟩,
       ⟨(some 15), .load false 1 (.t 14), (some (10, false)), []⟩,
       ⟨(some 16), .len false (.t 15), (some (10, false)), []⟩,
       ⟨(some 17), .bin .plain .gtr (.t 11) (.t 16), (some (10, false)), []⟩,
       ⟨(some 18), .pick (.t 10) (.k (.bool true)) (.t 17), none, []⟩])
     (.cond (.t 18)
      (.seq
       (.reg [] [
         ⟨(some 19), .mv (.t 0), none, []⟩,
         ⟨(some 20), .nilc (.t 19), none, []⟩,
         ⟨(some 21), .fa 1 (.t 20), none, []⟩,
         ⟨none, .store 1 (.t 21) (.k (.bool true)), none, []⟩])
       (.seq
        (.reg [] [
          ⟨(some 4), .mv (.k (.slice none 0 0)), none, []⟩])
        .ret))
      .skip))
    (.seq
     (.reg [] [
       ⟨(some 22), .mv (.t 0), none, []⟩,
       ⟨(some 23), .nilc (.t 22), none, []⟩,
       ⟨(some 24), .fa 0 (.t 23), none, []⟩,
       ⟨(some 25), .load false 1 (.t 24), none, []⟩,
       ⟨(some 26), .mv (.t 1), none, []⟩,
       ⟨(some 27), .mv (.t 1), none, []⟩,
       ⟨(some 28), .slice 1 (.t 25) none (some (.t 26)) (some (.t 27)), none, [25]⟩,
       ⟨(some 5), .mv (.t 28), none, []⟩])
     (.seq
      (.reg [] [
        ⟨(some 29), .mv (.t 0), none, []⟩,
        ⟨(some 30), .mv (.t 0), none, []⟩,
        ⟨(some 31), .nilc (.t 30), none, []⟩,
        ⟨(some 32), .fa 0 (.t 31), none, []⟩,
        ⟨(some 33), .load false 1 (.t 32), none, []⟩,
        ⟨(some 34), .mv (.t 1), none, []⟩,
        ⟨(some 35), .slice 1 (.t 33) (some (.t 34)) none none, none, [33]⟩,
        ⟨(some 36), .nilc (.t 29), none, []⟩,
        ⟨(some 37), .fa 0 (.t 36), none, []⟩,
        ⟨none, .store 1 (.t 37) (.t 35), none, []⟩])
      (.seq
       (.reg [] [
         ⟨(some 38), .mv (.t 5), none, []⟩,
         ⟨(some 4), .mv (.t 38), none, []⟩])
       .ret))))),
  [.tmp 4], [], false⟩

/-- heartwood/heartwoodlaw03.DigestPreimages -/
def ir9 : Ev.Fn := ⟨4, 128, 0,
  (.seq
   (.reg [] [
     ⟨(some 8), .mv (.k (.bool false)), none, []⟩])
   (.seq
    (.reg [] [
      ⟨(some 18), .qcall 26 [] [], none, []⟩,
      ⟨(some 9), .mv (.t 18), none, []⟩])
    (.seq
     (.reg [] [
       ⟨(some 19), .mv (.t 1), none, []⟩,
       ⟨(some 20), .qcall 27 [(.t 19)] [], none, []⟩,
       ⟨(some 21), .b2s (.t 20), none, []⟩,
       ⟨(some 22), .mv (.t 1), none, []⟩,
       ⟨(some 23), .qcall 28 [(.t 22)] [], none, []⟩,
       ⟨(some 24), .b2s (.t 23), none, []⟩,
       ⟨(some 25), .bin .plain .eql (.t 21) (.t 24), none, []⟩,
       ⟨(some 10), .mv (.t 25), none, []⟩])
     (.seq
      (.reg [] [
        ⟨(some 27), .mv (.t 0), none, []⟩,
        ⟨(some 28), .mv (.t 1), none, []⟩,
        ⟨(some 29), .mv (.t 2), none, []⟩,
        ⟨(some 30), .qcall 29 [(.t 27), (.t 28), (.t 29)] [], none, []⟩,
        ⟨(some 26), .mv (.t 30), none, []⟩,
        ⟨(some 31), .ext 0 (.t 26), none, []⟩,
        ⟨(some 32), .ext 1 (.t 26), none, []⟩,
        ⟨(some 11), .mv (.t 31), none, []⟩,
        ⟨(some 12), .mv (.t 32), none, []⟩])
      (.seq
       (.reg [] [
         ⟨(some 34), .mv (.t 0), none, []⟩,
         ⟨(some 35), .mv (.t 1), none, []⟩,
         ⟨(some 36), .mv (.t 2), none, []⟩,
         ⟨(some 37), .mv (.t 3), none, []⟩,
         ⟨(some 38), .qcall 30 [(.t 34), (.t 35), (.t 36), (.t 37)] [], none, []⟩,
         ⟨(some 33), .mv (.t 38), none, []⟩,
         ⟨(some 39), .ext 0 (.t 33), none, []⟩,
         ⟨(some 40), .ext 1 (.t 33), none, []⟩,
         ⟨(some 13), .mv (.t 39), none, []⟩,
         ⟨(some 14), .mv (.t 40), none, []⟩])
       (.seq
        (.reg [] [
          ⟨(some 41), .mv (.t 0), none, []⟩,
          ⟨(some 42), .qcall 31 [(.t 41)] [], none, []⟩,
          ⟨(some 15), .mv (.t 42), none, []⟩])
        (.seq
         (.reg [] [
           ⟨(some 43), .mv (.t 15), none, []⟩,
           ⟨(some 44), .mv (.t 43), none, []⟩,
           ⟨(some 45), .mv (.t 2), (some (44, true)), []⟩,
           ⟨(some 46), .len false (.t 45), (some (44, true)), []⟩,
           ⟨(some 47), .mv (.t 0), (some (44, true)), []⟩,
           ⟨(some 48), .bin .plain .eql (.t 46) (.t 47), (some (44, true)), []⟩,
           ⟨(some 49), .pick (.t 44) (.t 48) (.k (.bool false)), none, []⟩,
           ⟨(some 16), .mv (.t 49), none, []⟩])
         (.seq
          (.reg [] [
            ⟨(some 50), .mv (.t 16), none, []⟩,
            ⟨(some 51), .mv (.t 50), none, []⟩,
            ⟨(some 52), .mv (.t 1), (some (51, true)), []⟩,
            ⟨(some 53), .len false (.t 52), (some (51, true)), []⟩,
            ⟨(some 54), .mv (.t 0), (some (51, true)), []⟩,
            ⟨(some 55), .bin .plain .eql (.t 53) (.t 54), (some (51, true)), []⟩,
            ⟨(some 56), .pick (.t 51) (.t 55) (.k (.bool false)), none, []⟩,
            ⟨(some 57), .mv (.t 56), none, []⟩,
            ⟨(some 58), .mv (.t 3), (some (57, true)), []⟩,
            ⟨(some 59), .len false (.t 58), (some (57, true)), []⟩,
            ⟨(some 60), .mv (.t 0), (some (57, true)), []⟩,
            ⟨(some 61), .bin .plain .eql (.t 59) (.t 60), (some (57, true)), []⟩,
            ⟨(some 62), .pick (.t 57) (.t 61) (.k (.bool false)), none, []⟩,
            ⟨(some 17), .mv (.t 62), none, []⟩])
          (.seq
           (.seq
            (.reg [] [
              ⟨(some 63), .mv (.t 16), none, []⟩,
              ⟨(some 64), .mv (.t 12), none, []⟩,
              ⟨(some 65), .bin (.iface 31 true) .eql (.t 64) (.k .nilIface), none, []⟩,
              ⟨(some 66), .bin .bool .neq (.t 63) (.t 65), none, []⟩,
              ⟨(some 67), .mv (.t 66), none, []⟩,
              ⟨(some 68), .mv (.t 16), (some (67, false)), []⟩,
              ⟨(some 69), .un .not (.t 68), (some (67, false)), []⟩,
              ⟨(some 70), .mv (.t 69), (some (67, false)), []⟩,
              ⟨(some 71), .mv (.t 12), (some (70, true)), []⟩,
              ⟨(some 72), .mki 31 (.k (.int .i64 1)), (some (70, true)), []⟩,
              ⟨(some 73), .bin (.iface 31 false) .neq (.t 71) (.t 72), (some (70, true)), []⟩,
              ⟨(some 74), .mv (.t 73), (some (70, true)), []⟩,
              ⟨(some 75), .mv (.t 11), (some (74, false)), []⟩,
              ⟨(some 76), .len false (.t 75), (some (74, false)), []⟩,
              ⟨(some 77), .bin .plain .neq (.t 76) (.k (.int .i64 0)), (some (74, false)), []⟩,
              ⟨(some 78), .pick (.t 74) (.k (.bool true)) (.t 77), (some (70, true)), []⟩,
              ⟨(some 79), .pick (.t 70) (.t 78) (.k (.bool false)), (some (67, false)), []⟩,
              ⟨(some 80), .pick (.t 67) (.k (.bool true)) (.t 79), none, []⟩,
              ⟨(some 81), .mv (.t 80), none, []⟩,
              ⟨(some 82), .mv (.t 17), (some (81, false)), []⟩,
              ⟨(some 83), .mv (.t 14), (some (81, false)), []⟩,
              ⟨(some 84), .bin (.iface 31 true) .eql (.t 83) (.k .nilIface), (some (81, false)), []⟩,
              ⟨(some 85), .bin .bool .neq (.t 82) (.t 84), (some (81, false)), []⟩,
              ⟨(some 86), .pick (.t 81) (.k (.bool true)) (.t 85), none, []⟩,
              ⟨(some 87), .mv (.t 86), none, []⟩,
              ⟨(some 88), .mv (.t 17), (some (87, false)), []⟩,
              ⟨(some 89), .un .not (.t 88), (some (87, false)), []⟩,
              ⟨(some 90), .mv (.t 89), (some (87, false)), []⟩,
              ⟨(some 91), .mv (.t 14), (some (90, true)), []⟩,
              ⟨(some 92), .mki 31 (.k (.int .i64 1)), (some (90, true)), []⟩,
              ⟨(some 93), .bin (.iface 31 false) .neq (.t 91) (.t 92), (some (90, true)), []⟩,
              ⟨(some 94), .mv (.t 93), (some (90, true)), []⟩,
              ⟨(some 95), .mv (.t 13), (some (94, false)), []⟩,
              ⟨(some 96), .len false (.t 95), (some (94, false)), []⟩,
              ⟨(some 97), .bin .plain .neq (.t 96) (.k (.int .i64 0)), (some (94, false)), []⟩,
              ⟨(some 98), .pick (.t 94) (.k (.bool true)) (.t 97), (some (90, true)), []⟩,
              ⟨(some 99), .pick (.t 90) (.t 98) (.k (.bool false)), (some (87, false)), []⟩,
              ⟨(some 100), .pick (.t 87) (.k (.bool true)) (.t 99), none, []⟩])
            (.cond (.t 100)
             (.seq
              (.reg [] [
                ⟨(some 8), .mv (.k (.bool false)), none, []⟩])
              .ret)
             .skip))
           (.seq
            (.seq
             (.reg [] [
               ⟨(some 101), .mv (.t 16), none, []⟩,
               ⟨(some 102), .mv (.t 101), none, []⟩,
               ⟨(some 103), .mv (.t 11), (some (102, true)), []⟩,
               ⟨(some 104), .b2s (.t 103), (some (102, true)), []⟩,
               ⟨(some 105), .mv (.t 1), (some (102, true)), []⟩,
               ⟨(some 106), .mv (.t 2), (some (102, true)), []⟩,
               ⟨(some 107), .qcall 32 [(.t 105), (.t 106)] [], (some (102, true)), []⟩,
               ⟨(some 108), .b2s (.t 107), (some (102, true)), []⟩,
               ⟨(some 109), .bin .plain .neq (.t 104) (.t 108), (some (102, true)), []⟩,
               ⟨(some 110), .pick (.t 102) (.t 109) (.k (.bool false)), none, []⟩,
               ⟨(some 111), .mv (.t 110), none, []⟩,
               ⟨(some 112), .mv (.t 17), (some (111, false)), []⟩,
               ⟨(some 113), .mv (.t 112), (some (111, false)), []⟩,
               ⟨(some 114), .mv (.t 13), (some (113, true)), []⟩,
               ⟨(some 115), .b2s (.t 114), (some (113, true)), []⟩,
               ⟨(some 116), .mv (.t 1), (some (113, true)), []⟩,
               ⟨(some 117), .mv (.t 2), (some (113, true)), []⟩,
               ⟨(some 118), .mv (.t 3), (some (113, true)), []⟩,
               ⟨(some 119), .qcall 33 [(.t 116), (.t 117), (.t 118)] [], (some (113, true)), []⟩,
               ⟨(some 120), .b2s (.t 119), (some (113, true)), []⟩,
               ⟨(some 121), .bin .plain .neq (.t 115) (.t 120), (some (113, true)), []⟩,
               ⟨(some 122), .pick (.t 113) (.t 121) (.k (.bool false)), (some (111, false)), []⟩,
               ⟨(some 123), .pick (.t 111) (.k (.bool true)) (.t 122), none, []⟩])
             (.cond (.t 123)
              (.seq
               (.reg [] [
                 ⟨(some 8), .mv (.k (.bool false)), none, []⟩])
               .ret)
              .skip))
            (.seq
             (.reg [] [
               ⟨(some 124), .mv (.t 9), none, []⟩,
               ⟨(some 125), .mv (.t 124), none, []⟩,
               ⟨(some 126), .mv (.t 10), (some (125, true)), []⟩,
               ⟨(some 127), .pick (.t 125) (.t 126) (.k (.bool false)), none, []⟩,
               ⟨(some 8), .mv (.t 127), none, []⟩])
             .ret))))))))))),
  [.tmp 8], [], false⟩

/-- heartwood/heartwoodlaw03.up -/
def ir26 : Ev.Fn := ⟨0, 22, 1,
  (.seq
   (.reg [] [
     ⟨(some 0), .mv (.k (.bool false)), none, []⟩])
   (.seq
    (.reg [] [
      ⟨(some 4), .lit 0 5 1 1 [(.int .u8 0)] [(0, (.k (.int .u8 97)))], none, []⟩,
      ⟨(some 5), .markb (.t 4), none, []⟩,
      ⟨(some 6), .litd 1 1 [(.int .u8 0)] [(0, (.k (.int .u8 255)))], none, []⟩,
      ⟨(some 7), .qcall 29 [(.k (.int .i64 1)), (.t 5), (.t 6)] [], none, []⟩,
      ⟨(some 3), .mv (.t 7), none, []⟩,
      ⟨(some 8), .ext 0 (.t 3), none, []⟩,
      ⟨(some 9), .ext 1 (.t 3), none, []⟩,
      ⟨(some 1), .mv (.t 8), none, []⟩,
      ⟨(some 2), .mv (.t 9), none, []⟩])
    (.seq
     (.reg [] [
       ⟨(some 10), .mv (.t 2), none, []⟩,
       ⟨(some 11), .bin (.iface 31 true) .eql (.t 10) (.k .nilIface), none, []⟩,
       ⟨(some 12), .mv (.t 11), none, []⟩,
       ⟨(some 13), .mv (.t 1), (some (12, true)), []⟩,
       ⟨(some 14), .b2s (.t 13), (some (12, true)), []⟩,
       ⟨(some 15), .bin .plain .eql (.t 14) (.k (.string ⟨#[1, 1, 97, 255]⟩)), (some (12, true)), []⟩,
       ⟨(some 16), .pick (.t 12) (.t 15) (.k (.bool false)), none, []⟩,
       ⟨(some 17), .mv (.t 16), none, []⟩,
       ⟨(some 18), .qcall 34 [] [], (some (17, true)), []⟩,
       ⟨(some 19), .b2s (.t 18), (some (17, true)), []⟩,
       ⟨(some 20), .bin .plain .eql (.t 19) (.k (.string ⟨#[3]⟩)), (some (17, true)), []⟩,
       ⟨(some 21), .pick (.t 17) (.t 20) (.k (.bool false)), none, []⟩,
       ⟨(some 0), .mv (.t 21), none, []⟩])
     .ret))),
  [.tmp 0], [], false⟩

/-- heartwood/digest.Pair -/
def ir29 : Ev.Fn := ⟨3, 24, 0,
  (.seq
   (.reg [] [
     ⟨(some 6), .mv (.k (.slice none 0 0)), none, []⟩,
     ⟨(some 7), .mv (.k .nilIface), none, []⟩])
   (.seq
    (.seq
     (.reg [] [
       ⟨(some 8), .mv (.t 0), none, []⟩,
       ⟨(some 9), .qcall 48 [(.t 8)] [], none, []⟩,
       ⟨(some 10), .un .not (.t 9), none, []⟩,
       ⟨(some 11), .mv (.t 10), none, []⟩,
       ⟨(some 12), .mv (.t 2), (some (11, false)), []⟩,
       ⟨(some 13), .len false (.t 12), (some (11, false)), []⟩,
       ⟨(some 14), .mv (.t 0), (some (11, false)), []⟩,
       ⟨(some 15), .bin .plain .neq (.t 13) (.t 14), (some (11, false)), []⟩,
       ⟨(some 16), .pick (.t 11) (.k (.bool true)) (.t 15), none, []⟩])
     (.cond (.t 16)
      (.seq
       (.reg [] [
         ⟨(some 17), .mki 31 (.k (.int .i64 1)), none, []⟩,
         ⟨(some 6), .mv (.k (.slice none 0 0)), none, []⟩,
         ⟨(some 7), .mv (.t 17), none, []⟩])
       .ret)
      .skip))
    (.seq
     (.reg [] [
       ⟨(some 18), .litd 1 1 [(.int .u8 0)] [(0, (.k (.int .u8 1)))], none, []⟩,
       ⟨(some 19), .mv (.t 1), none, []⟩,
       ⟨(some 20), .qcall 20 [(.t 19)] [], none, []⟩,
       ⟨(some 21), .mv (.t 2), none, []⟩,
       ⟨(some 22), .litd 1 3 [(.slice none 0 0)] [(0, (.t 18)), (1, (.t 20)), (2, (.t 21))], none, []⟩,
       ⟨(some 23), .qcall 49 [(.t 22)] [], none, []⟩,
       ⟨(some 6), .mv (.t 23), none, []⟩,
       ⟨(some 7), .mv (.k .nilIface), none, []⟩])
     .ret))),
  [.tmp 6, .tmp 7], [], false⟩

/-- heartwood/digest.width -/
def ir48 : Ev.Fn := ⟨1, 9, 0,
  (.seq
   (.reg [] [
     ⟨(some 2), .mv (.k (.bool false)), none, []⟩])
   (.seq
    (.reg [] [
      ⟨(some 3), .mv (.t 0), none, []⟩,
      ⟨(some 4), .bin .plain .geq (.t 3) (.k (.int .i64 1)), none, []⟩,
      ⟨(some 5), .mv (.t 4), none, []⟩,
      ⟨(some 6), .mv (.t 0), (some (5, true)), []⟩,
      ⟨(some 7), .bin .plain .leq (.t 6) (.k (.int .i64 32)), (some (5, true)), []⟩,
      ⟨(some 8), .pick (.t 5) (.t 7) (.k (.bool false)), none, []⟩,
      ⟨(some 2), .mv (.t 8), none, []⟩])
    .ret)),
  [.tmp 2], [], false⟩

def ir49j1 : List Bool := [true, false, false, true, false, false, false, false, false, true, true, true, false, false, false, false, false, false, false, false, false, false, false, false, false, false, false, false, false, false, false, false, false, false, false, false]
def ir49k0 : List Bool := [true, false, false, true, false, false, false, false, false, true, true, true, false, false, false, false, false, false, false, false, false, false, false, false, false, false, false, false, false, false, false, false, false, false, false, false]
def ir49b0 : IR :=
  (.seq
   (.reg [] [
     ⟨(some 12), .bin .plain .lss (.t 11) (.t 10), none, []⟩])
   (.seq
    (.cond (.t 12)
     .skip
     (.exit 0))
    (.seq
     (.block 1 ir49j1
      (.seq
       (.reg [] [
         ⟨(some 13), .ia 1 (.t 9) (.t 11), none, []⟩,
         ⟨(some 14), .load false 1 (.t 13), none, []⟩,
         ⟨(some 5), .mv (.t 14), none, []⟩])
       (.seq
        (.reg [] [
          ⟨(some 15), .mv (.t 3), none, []⟩,
          ⟨(some 16), .mv (.t 5), none, []⟩,
          ⟨(some 17), .len false (.t 16), none, []⟩,
          ⟨(some 18), .bin .plain .add (.t 15) (.t 17), none, []⟩,
          ⟨(some 3), .mv (.t 18), none, []⟩])
        (.seq
         (.reg [] [
           ⟨(some 19), .mv (.t 3), none, []⟩,
           ⟨(some 20), .bin .plain .lss (.t 19) (.k (.int .i64 0)), none, []⟩])
         (.cond (.t 20)
          (.reg [] [
            ⟨(some 21), .mki 9 (.k (.string ⟨#[108, 101, 110, 32, 111, 117, 116, 32, 111, 102, 32, 114, 97, 110, 103, 101]⟩)), none, []⟩,
            ⟨none, .trap, none, []⟩])
          .skip)))))
     (.reg [] [
       ⟨(some 22), .bin .plain .add (.t 11) (.k (.int .i64 1)), none, []⟩,
       ⟨(some 11), .mv (.t 22), none, []⟩]))))

def ir49j0 : List Bool := [true, false, false, true, false, false, false, false, false, false, false, false, false, false, false, false, false, false, false, false, false, false, false, false, false, false, false, false, false, false, false, false, false, false, false, false]
def ir49j3 : List Bool := [false, false, false, false, false, false, true, false, false, false, false, false, false, false, false, false, false, false, false, false, false, false, false, false, false, true, true, true, false, false, false, false, false, false, false, false]
def ir49k1 : List Bool := [false, false, false, false, false, false, true, false, false, false, false, false, false, false, false, false, false, false, false, false, false, false, false, false, false, true, true, true, false, false, false, false, false, false, false, false]
def ir49b1 : IR :=
  (.seq
   (.reg [] [
     ⟨(some 28), .bin .plain .lss (.t 27) (.t 26), none, []⟩])
   (.seq
    (.cond (.t 28)
     .skip
     (.exit 2))
    (.seq
     (.block 3 ir49j3
      (.seq
       (.reg [] [
         ⟨(some 29), .ia 1 (.t 25) (.t 27), none, []⟩,
         ⟨(some 30), .load false 1 (.t 29), none, []⟩,
         ⟨(some 8), .mv (.t 30), none, []⟩])
       (.reg [] [
         ⟨(some 31), .mv (.t 6), none, []⟩,
         ⟨(some 32), .mv (.t 8), none, []⟩,
         ⟨(some 33), .app 0 5 1 1 (.t 31) (.t 32), none, []⟩,
         ⟨(some 6), .mv (.t 33), none, []⟩])))
     (.reg [] [
       ⟨(some 34), .bin .plain .add (.t 27) (.k (.int .i64 1)), none, []⟩,
       ⟨(some 27), .mv (.t 34), none, []⟩]))))

def ir49j2 : List Bool := [false, false, false, false, false, false, true, false, false, false, false, false, false, false, false, false, false, false, false, false, false, false, false, false, false, false, false, false, false, false, false, false, false, false, false, false]
/-- slices.Concat[[]byte,byte] -/
def ir49 : Ev.Fn := ⟨1, 36, 1,
  (.seq
   (.reg [] [
     ⟨(some 2), .mv (.k (.slice none 0 0)), none, []⟩])
   (.seq
    (.reg [] [
      ⟨(some 3), .mv (.k (.int .i64 0)), none, []⟩])
    (.seq
     (.seq
      (.reg [] [
        ⟨(some 9), .mv (.t 0), none, []⟩,
        ⟨(some 10), .len false (.t 9), none, []⟩,
        ⟨(some 11), .mv (.k (.int .i64 0)), none, []⟩])
      (.block 0 ir49j0
       (.loop ir49k0 ir49b0)))
     (.seq
      (.reg [] [
        ⟨(some 23), .mv (.t 3), none, []⟩,
        ⟨(some 24), .qcall 50 [(.k (.slice none 0 0)), (.t 23)] [], none, []⟩,
        ⟨(some 6), .mv (.t 24), none, []⟩])
      (.seq
       (.seq
        (.reg [] [
          ⟨(some 25), .mv (.t 0), none, []⟩,
          ⟨(some 26), .len false (.t 25), none, []⟩,
          ⟨(some 27), .mv (.k (.int .i64 0)), none, []⟩])
        (.block 2 ir49j2
         (.loop ir49k1 ir49b1)))
       (.seq
        (.reg [] [
          ⟨(some 35), .mv (.t 6), none, []⟩,
          ⟨(some 2), .mv (.t 35), none, [35]⟩])
        .ret)))))),
  [.tmp 2], [], false⟩

/-- slices.Grow[[]byte,byte] -/
def ir50 : Ev.Fn := ⟨2, 27, 1,
  (.seq
   (.reg [] [
     ⟨(some 4), .mv (.k (.slice none 0 0)), none, []⟩])
   (.seq
    (.seq
     (.reg [] [
       ⟨(some 5), .mv (.t 1), none, []⟩,
       ⟨(some 6), .bin .plain .lss (.t 5) (.k (.int .i64 0)), none, []⟩])
     (.cond (.t 6)
      (.reg [] [
        ⟨(some 7), .mki 9 (.k (.string ⟨#[99, 97, 110, 110, 111, 116, 32, 98, 101, 32, 110, 101, 103, 97, 116, 105, 118, 101]⟩)), none, []⟩,
        ⟨none, .trap, none, []⟩])
      .skip))
    (.seq
     (.seq
      (.reg [] [
        ⟨(some 8), .mv (.t 1), none, []⟩,
        ⟨(some 9), .mv (.t 0), none, []⟩,
        ⟨(some 10), .capn (.t 9), none, []⟩,
        ⟨(some 11), .mv (.t 0), none, []⟩,
        ⟨(some 12), .len false (.t 11), none, []⟩,
        ⟨(some 13), .bin .plain .sub (.t 10) (.t 12), none, []⟩,
        ⟨(some 14), .bin .plain .sub (.t 8) (.t 13), none, []⟩,
        ⟨(some 1), .mv (.t 14), none, []⟩])
      (.seq
       (.reg [] [
         ⟨(some 15), .mv (.t 1), none, []⟩,
         ⟨(some 16), .bin .plain .gtr (.t 15) (.k (.int .i64 0)), none, []⟩])
       (.cond (.t 16)
        (.reg [] [
          ⟨(some 17), .mv (.t 0), none, []⟩,
          ⟨(some 18), .mv (.t 0), none, []⟩,
          ⟨(some 19), .capn (.t 18), none, []⟩,
          ⟨(some 20), .slice 1 (.t 17) none (some (.t 19)) none, none, []⟩,
          ⟨(some 21), .mv (.t 1), none, []⟩,
          ⟨(some 22), .appz 0 5 1 1 [(.int .u8 0)] (.t 20) (.t 21), none, []⟩,
          ⟨(some 23), .mv (.t 0), none, []⟩,
          ⟨(some 24), .len false (.t 23), none, []⟩,
          ⟨(some 25), .slice 1 (.t 22) none (some (.t 24)) none, none, [22]⟩,
          ⟨(some 0), .mv (.t 25), none, []⟩])
        .skip)))
     (.seq
      (.reg [] [
        ⟨(some 26), .mv (.t 0), none, []⟩,
        ⟨(some 4), .mv (.t 26), none, []⟩])
      .ret)))),
  [.tmp 4], [], false⟩

/-- heartwood/digest.None -/
def ir34 : Ev.Fn := ⟨0, 2, 0,
  (.seq
   (.reg [] [
     ⟨(some 0), .mv (.k (.slice none 0 0)), none, []⟩])
   (.seq
    (.reg [] [
      ⟨(some 1), .litd 1 1 [(.int .u8 0)] [(0, (.k (.int .u8 3)))], none, []⟩,
      ⟨(some 0), .mv (.t 1), none, []⟩])
    .ret)),
  [.tmp 0], [], false⟩

/-- heartwood/digest.Value -/
def ir27 : Ev.Fn := ⟨1, 6, 2,
  (.seq
   (.reg [] [
     ⟨(some 2), .mv (.k (.slice none 0 0)), none, []⟩])
   (.seq
    (.reg [] [
      ⟨(some 3), .lit 0 5 1 1 [(.int .u8 0)] [(0, (.k (.int .u8 0)))], none, []⟩,
      ⟨(some 4), .mv (.t 0), none, []⟩,
      ⟨(some 5), .app 1 5 1 1 (.t 3) (.t 4), none, []⟩,
      ⟨(some 2), .mv (.t 5), none, [5]⟩])
    .ret)),
  [.tmp 2], [], false⟩

/-- heartwood/heartwoodref03.Value -/
def ir28 : Ev.Fn := ⟨1, 6, 2,
  (.seq
   (.reg [] [
     ⟨(some 2), .mv (.k (.slice none 0 0)), none, []⟩])
   (.seq
    (.reg [] [
      ⟨(some 3), .lit 0 5 1 1 [(.int .u8 0)] [(0, (.k (.int .u8 0)))], none, []⟩,
      ⟨(some 4), .mv (.t 0), none, []⟩,
      ⟨(some 5), .app 1 5 1 1 (.t 3) (.t 4), none, []⟩,
      ⟨(some 2), .mv (.t 5), none, [5]⟩])
    .ret)),
  [.tmp 2], [], false⟩

/-- heartwood/digest.Node -/
def ir30 : Ev.Fn := ⟨4, 38, 0,
  (.seq
   (.reg [] [
     ⟨(some 8), .mv (.k (.slice none 0 0)), none, []⟩,
     ⟨(some 9), .mv (.k .nilIface), none, []⟩])
   (.seq
    (.seq
     (.reg [] [
       ⟨(some 10), .mv (.t 0), none, []⟩,
       ⟨(some 11), .qcall 48 [(.t 10)] [], none, []⟩,
       ⟨(some 12), .un .not (.t 11), none, []⟩,
       ⟨(some 13), .mv (.t 12), none, []⟩,
       ⟨(some 14), .mv (.t 1), (some (13, false)), []⟩,
       ⟨(some 15), .len false (.t 14), (some (13, false)), []⟩,
       ⟨(some 16), .mv (.t 0), (some (13, false)), []⟩,
       ⟨(some 17), .bin .plain .neq (.t 15) (.t 16), (some (13, false)), []⟩,
       ⟨(some 18), .pick (.t 13) (.k (.bool true)) (.t 17), none, []⟩,
       ⟨(some 19), .mv (.t 18), none, []⟩,
       ⟨(some 20), .mv (.t 2), (some (19, false)), []⟩,
       ⟨(some 21), .len false (.t 20), (some (19, false)), []⟩,
       ⟨(some 22), .mv (.t 0), (some (19, false)), []⟩,
       ⟨(some 23), .bin .plain .neq (.t 21) (.t 22), (some (19, false)), []⟩,
       ⟨(some 24), .pick (.t 19) (.k (.bool true)) (.t 23), none, []⟩,
       ⟨(some 25), .mv (.t 24), none, []⟩,
       ⟨(some 26), .mv (.t 3), (some (25, false)), []⟩,
       ⟨(some 27), .len false (.t 26), (some (25, false)), []⟩,
       ⟨(some 28), .mv (.t 0), (some (25, false)), []⟩,
       ⟨(some 29), .bin .plain .neq (.t 27) (.t 28), (some (25, false)), []⟩,
       ⟨(some 30), .pick (.t 25) (.k (.bool true)) (.t 29), none, []⟩])
     (.cond (.t 30)
      (.seq
       (.reg [] [
         ⟨(some 31), .mki 31 (.k (.int .i64 1)), none, []⟩,
         ⟨(some 8), .mv (.k (.slice none 0 0)), none, []⟩,
         ⟨(some 9), .mv (.t 31), none, []⟩])
       .ret)
      .skip))
    (.seq
     (.reg [] [
       ⟨(some 32), .litd 1 1 [(.int .u8 0)] [(0, (.k (.int .u8 2)))], none, []⟩,
       ⟨(some 33), .mv (.t 1), none, []⟩,
       ⟨(some 34), .mv (.t 2), none, []⟩,
       ⟨(some 35), .mv (.t 3), none, []⟩,
       ⟨(some 36), .litd 1 4 [(.slice none 0 0)] [(0, (.t 32)), (1, (.t 33)), (2, (.t 34)), (3, (.t 35))], none, []⟩,
       ⟨(some 37), .qcall 49 [(.t 36)] [], none, []⟩,
       ⟨(some 8), .mv (.t 37), none, []⟩,
       ⟨(some 9), .mv (.k .nilIface), none, []⟩])
     .ret))),
  [.tmp 8, .tmp 9], [], false⟩

/-- heartwood/heartwoodlaw03.may -/
def ir31 : Ev.Fn := ⟨1, 9, 0,
  (.seq
   (.reg [] [
     ⟨(some 2), .mv (.k (.bool false)), none, []⟩])
   (.seq
    (.reg [] [
      ⟨(some 3), .mv (.t 0), none, []⟩,
      ⟨(some 4), .bin .plain .geq (.t 3) (.k (.int .i64 1)), none, []⟩,
      ⟨(some 5), .mv (.t 4), none, []⟩,
      ⟨(some 6), .mv (.t 0), (some (5, true)), []⟩,
      ⟨(some 7), .bin .plain .leq (.t 6) (.k (.int .i64 32)), (some (5, true)), []⟩,
      ⟨(some 8), .pick (.t 5) (.t 7) (.k (.bool false)), none, []⟩,
      ⟨(some 2), .mv (.t 8), none, []⟩])
    .ret)),
  [.tmp 2], [], false⟩

/-- heartwood/heartwoodref03.Pair -/
def ir32 : Ev.Fn := ⟨2, 13, 3,
  (.seq
   (.reg [] [
     ⟨(some 4), .mv (.k (.slice none 0 0)), none, []⟩])
   (.seq
    (.reg [] [
      ⟨(some 6), .lit 0 5 1 1 [(.int .u8 0)] [(0, (.k (.int .u8 1)))], none, []⟩,
      ⟨(some 7), .mv (.t 0), none, []⟩,
      ⟨(some 8), .qcall 21 [(.t 7)] [], none, []⟩,
      ⟨(some 9), .app 1 5 1 1 (.t 6) (.t 8), none, []⟩,
      ⟨(some 5), .mv (.t 9), none, []⟩])
    (.seq
     (.reg [] [
       ⟨(some 10), .mv (.t 5), none, []⟩,
       ⟨(some 11), .mv (.t 1), none, []⟩,
       ⟨(some 12), .app 2 5 1 1 (.t 10) (.t 11), none, []⟩,
       ⟨(some 4), .mv (.t 12), none, [12]⟩])
     .ret))),
  [.tmp 4], [], false⟩

/-- heartwood/heartwoodref03.Node -/
def ir33 : Ev.Fn := ⟨3, 17, 4,
  (.seq
   (.reg [] [
     ⟨(some 6), .mv (.k (.slice none 0 0)), none, []⟩])
   (.seq
    (.reg [] [
      ⟨(some 8), .lit 0 5 1 1 [(.int .u8 0)] [(0, (.k (.int .u8 2)))], none, []⟩,
      ⟨(some 9), .mv (.t 0), none, []⟩,
      ⟨(some 10), .app 1 5 1 1 (.t 8) (.t 9), none, []⟩,
      ⟨(some 7), .mv (.t 10), none, []⟩])
    (.seq
     (.reg [] [
       ⟨(some 11), .mv (.t 7), none, []⟩,
       ⟨(some 12), .mv (.t 1), none, []⟩,
       ⟨(some 13), .app 2 5 1 1 (.t 11) (.t 12), none, []⟩,
       ⟨(some 7), .mv (.t 13), none, []⟩])
     (.seq
      (.reg [] [
        ⟨(some 14), .mv (.t 7), none, []⟩,
        ⟨(some 15), .mv (.t 2), none, []⟩,
        ⟨(some 16), .app 3 5 1 1 (.t 14) (.t 15), none, []⟩,
        ⟨(some 6), .mv (.t 16), none, [16]⟩])
      .ret)))),
  [.tmp 6], [], false⟩

def ir10j1 : List Bool := [true, true, true, true, true, false, false, false, false, false, false, true, false, true, true, true, false, false, false, false, false, false, false, false, false, false, false, false, false, false, false, false, false, false, false, false, false, false, false, false, false, false, false, false, false, false, false, false, false, false, false, false, false, false, false, false, false, false, false, false, false, false, false, false, false, false, false, false, false, false, false, false, false, false, false, false, false, false, false, false, false, false, false, false, false, false, false, false, false, false, false, false, false, false, false, false, false, false, false, false, false, false, false, false, false, false, false, false, false, false, false, false, false, false, false, false, false, false, false, false, false, false, false, false, false, false, false, false, false, false, false, false, false, false, false, false, false, false, false, false, false, false, false, false, false, false, false, false, false, false, false, false, false, false, false, false, false, false, false, false, false, false, false, false, false, false, false, false, false, false, false, false, false, false, false, false, false, false, false, false, false, false, false, false, false, false, false, false, false, false, false, false, false, false, false, false, false, false, false]
def ir10k0 : List Bool := [true, true, true, true, true, false, false, false, false, false, false, true, false, true, true, true, false, false, false, false, false, false, false, false, false, false, false, false, false, false, false, false, false, false, false, false, false, false, false, false, false, false, false, false, false, false, false, false, false, false, false, false, false, false, false, false, false, false, false, false, false, false, false, false, false, false, false, false, false, false, false, false, false, false, false, false, false, false, false, false, false, false, false, false, false, false, false, false, false, false, false, false, false, false, false, false, false, false, false, false, false, false, false, false, false, false, false, false, false, false, false, false, false, false, false, false, false, false, false, false, false, false, false, false, false, false, false, false, false, false, false, false, false, false, false, false, false, false, false, false, false, false, false, false, false, false, false, false, false, false, false, false, false, false, false, false, false, false, false, false, false, false, false, false, false, false, false, false, false, false, false, false, false, false, false, false, false, false, false, false, false, false, false, false, false, false, false, false, false, false, false, false, false, false, false, false, false, false, false]
def ir10b0 : IR :=
  (.seq
   (.seq
    (.reg [] [
      ⟨(some 38), .mv (.t 15), none, []⟩,
      ⟨(some 39), .mv (.t 0), none, []⟩,
      ⟨(some 40), .bin .plain .lss (.t 38) (.t 39), none, []⟩])
    (.cond (.t 40)
     .skip
     (.exit 0)))
   (.seq
    (.block 1 ir10j1
     (.seq
      (.seq
       (.reg [] [
         ⟨(some 43), .mv (.t 15), none, []⟩,
         ⟨(some 44), .mv (.t 3), none, []⟩,
         ⟨(some 45), .len false (.t 44), none, []⟩,
         ⟨(some 46), .bin .plain .lss (.t 43) (.t 45), none, []⟩])
       (.cond (.t 46)
        (.reg [] [
          ⟨(some 47), .mv (.t 13), none, []⟩,
          ⟨(some 48), .mv (.t 15), none, []⟩,
          ⟨(some 49), .mv (.t 3), none, []⟩,
          ⟨(some 50), .mv (.t 15), none, []⟩,
          ⟨(some 51), .ia 1 (.t 49) (.t 50), none, []⟩,
          ⟨(some 52), .load false 1 (.t 51), none, []⟩,
          ⟨(some 53), .ia 1 (.t 47) (.t 48), none, []⟩,
          ⟨none, .store 1 (.t 53) (.t 52), none, []⟩])
        .skip))
      (.seq
       (.reg [] [
         ⟨(some 54), .mv (.t 15), none, []⟩,
         ⟨(some 55), .mv (.t 4), none, []⟩,
         ⟨(some 56), .len false (.t 55), none, []⟩,
         ⟨(some 57), .bin .plain .lss (.t 54) (.t 56), none, []⟩])
       (.cond (.t 57)
        (.reg [] [
          ⟨(some 58), .mv (.t 14), none, []⟩,
          ⟨(some 59), .mv (.t 15), none, []⟩,
          ⟨(some 60), .mv (.t 4), none, []⟩,
          ⟨(some 61), .mv (.t 15), none, []⟩,
          ⟨(some 62), .ia 1 (.t 60) (.t 61), none, []⟩,
          ⟨(some 63), .load false 1 (.t 62), none, []⟩,
          ⟨(some 64), .ia 1 (.t 58) (.t 59), none, []⟩,
          ⟨none, .store 1 (.t 64) (.t 63), none, []⟩])
        .skip))))
    (.reg [] [
      ⟨(some 41), .mv (.t 15), none, []⟩,
      ⟨(some 42), .bin .plain .add (.t 41) (.k (.int .i64 1)), none, []⟩,
      ⟨(some 15), .mv (.t 42), none, []⟩])))

def ir10j0 : List Bool := [true, true, true, false, false, false, false, false, false, false, false, true, false, true, true, false, false, false, false, false, false, false, false, false, false, false, false, false, false, false, false, false, false, false, false, false, false, false, false, false, false, false, false, false, false, false, false, false, false, false, false, false, false, false, false, false, false, false, false, false, false, false, false, false, false, false, false, false, false, false, false, false, false, false, false, false, false, false, false, false, false, false, false, false, false, false, false, false, false, false, false, false, false, false, false, false, false, false, false, false, false, false, false, false, false, false, false, false, false, false, false, false, false, false, false, false, false, false, false, false, false, false, false, false, false, false, false, false, false, false, false, false, false, false, false, false, false, false, false, false, false, false, false, false, false, false, false, false, false, false, false, false, false, false, false, false, false, false, false, false, false, false, false, false, false, false, false, false, false, false, false, false, false, false, false, false, false, false, false, false, false, false, false, false, false, false, false, false, false, false, false, false, false, false, false, false, false, false, false]
/-- heartwood/heartwoodlaw03.DigestApart -/
def ir10 : Ev.Fn := ⟨5, 199, 2,
  (.seq
   (.reg [] [
     ⟨(some 10), .mv (.k (.bool false)), none, []⟩])
   (.seq
    (.reg [] [
      ⟨(some 28), .qcall 26 [] [], none, []⟩,
      ⟨(some 11), .mv (.t 28), none, []⟩])
    (.seq
     (.reg [] [
       ⟨(some 29), .mv (.t 0), none, []⟩,
       ⟨(some 30), .qcall 31 [(.t 29)] [], none, []⟩,
       ⟨(some 12), .mv (.t 30), none, []⟩])
     (.seq
      (.seq
       (.reg [] [
         ⟨(some 31), .mv (.t 12), none, []⟩,
         ⟨(some 32), .un .not (.t 31), none, []⟩])
       (.cond (.t 32)
        (.seq
         (.reg [] [
           ⟨(some 33), .mv (.t 11), none, []⟩,
           ⟨(some 10), .mv (.t 33), none, []⟩])
         .ret)
        .skip))
      (.seq
       (.reg [] [
         ⟨(some 34), .mv (.t 0), none, []⟩,
         ⟨(some 35), .make 0 5 1 1 [(.int .u8 0)] (.t 34) (.t 34), none, []⟩,
         ⟨(some 13), .mv (.t 35), none, []⟩])
       (.seq
        (.reg [] [
          ⟨(some 36), .mv (.t 0), none, []⟩,
          ⟨(some 37), .make 1 5 1 1 [(.int .u8 0)] (.t 36) (.t 36), none, []⟩,
          ⟨(some 14), .mv (.t 37), none, []⟩])
        (.seq
         (.seq
          (.reg [] [
            ⟨(some 15), .mv (.k (.int .i64 0)), none, []⟩])
          (.block 0 ir10j0
           (.loop ir10k0 ir10b0)))
         (.seq
          (.reg [] [
            ⟨(some 66), .mv (.t 0), none, []⟩,
            ⟨(some 67), .mv (.t 1), none, []⟩,
            ⟨(some 68), .mv (.t 13), none, []⟩,
            ⟨(some 69), .qcall 29 [(.t 66), (.t 67), (.t 68)] [], none, [68]⟩,
            ⟨(some 65), .mv (.t 69), none, []⟩,
            ⟨(some 70), .ext 0 (.t 65), none, []⟩,
            ⟨(some 71), .ext 1 (.t 65), none, []⟩,
            ⟨(some 16), .mv (.t 70), none, []⟩,
            ⟨(some 17), .mv (.t 71), none, []⟩])
          (.seq
           (.reg [] [
             ⟨(some 73), .mv (.t 0), none, []⟩,
             ⟨(some 74), .mv (.t 2), none, []⟩,
             ⟨(some 75), .mv (.t 14), none, []⟩,
             ⟨(some 76), .qcall 29 [(.t 73), (.t 74), (.t 75)] [], none, [75]⟩,
             ⟨(some 72), .mv (.t 76), none, []⟩,
             ⟨(some 77), .ext 0 (.t 72), none, []⟩,
             ⟨(some 78), .ext 1 (.t 72), none, []⟩,
             ⟨(some 18), .mv (.t 77), none, []⟩,
             ⟨(some 19), .mv (.t 78), none, []⟩])
           (.seq
            (.reg [] [
              ⟨(some 80), .mv (.t 0), none, []⟩,
              ⟨(some 81), .mv (.t 13), none, []⟩,
              ⟨(some 82), .mv (.t 14), none, []⟩,
              ⟨(some 83), .mv (.t 13), none, []⟩,
              ⟨(some 84), .qcall 30 [(.t 80), (.t 81), (.t 82), (.t 83)] [], none, [81, 82, 83]⟩,
              ⟨(some 79), .mv (.t 84), none, []⟩,
              ⟨(some 85), .ext 0 (.t 79), none, []⟩,
              ⟨(some 86), .ext 1 (.t 79), none, []⟩,
              ⟨(some 20), .mv (.t 85), none, []⟩,
              ⟨(some 21), .mv (.t 86), none, []⟩])
            (.seq
             (.reg [] [
               ⟨(some 88), .mv (.t 0), none, []⟩,
               ⟨(some 89), .mv (.t 14), none, []⟩,
               ⟨(some 90), .mv (.t 13), none, []⟩,
               ⟨(some 91), .mv (.t 13), none, []⟩,
               ⟨(some 92), .qcall 30 [(.t 88), (.t 89), (.t 90), (.t 91)] [], none, [89, 90, 91]⟩,
               ⟨(some 87), .mv (.t 92), none, []⟩,
               ⟨(some 93), .ext 0 (.t 87), none, []⟩,
               ⟨(some 94), .ext 1 (.t 87), none, []⟩,
               ⟨(some 22), .mv (.t 93), none, []⟩,
               ⟨(some 23), .mv (.t 94), none, []⟩])
             (.seq
              (.seq
               (.reg [] [
                 ⟨(some 95), .mv (.t 17), none, []⟩,
                 ⟨(some 96), .bin (.iface 31 true) .neq (.t 95) (.k .nilIface), none, []⟩,
                 ⟨(some 97), .mv (.t 96), none, []⟩,
                 ⟨(some 98), .mv (.t 19), (some (97, false)), []⟩,
                 ⟨(some 99), .bin (.iface 31 true) .neq (.t 98) (.k .nilIface), (some (97, false)), []⟩,
                 ⟨(some 100), .pick (.t 97) (.k (.bool true)) (.t 99), none, []⟩,
                 ⟨(some 101), .mv (.t 100), none, []⟩,
                 ⟨(some 102), .mv (.t 21), (some (101, false)), []⟩,
                 ⟨(some 103), .bin (.iface 31 true) .neq (.t 102) (.k .nilIface), (some (101, false)), []⟩,
                 ⟨(some 104), .pick (.t 101) (.k (.bool true)) (.t 103), none, []⟩,
                 ⟨(some 105), .mv (.t 104), none, []⟩,
                 ⟨(some 106), .mv (.t 23), (some (105, false)), []⟩,
                 ⟨(some 107), .bin (.iface 31 true) .neq (.t 106) (.k .nilIface), (some (105, false)), []⟩,
                 ⟨(some 108), .pick (.t 105) (.k (.bool true)) (.t 107), none, []⟩])
               (.cond (.t 108)
                (.seq
                 (.reg [] [
                   ⟨(some 10), .mv (.k (.bool false)), none, []⟩])
                 .ret)
                .skip))
              (.seq
               (.reg [] [
                 ⟨(some 109), .mv (.t 16), none, []⟩,
                 ⟨(some 110), .b2s (.t 109), none, []⟩,
                 ⟨(some 111), .mv (.t 18), none, []⟩,
                 ⟨(some 112), .b2s (.t 111), none, []⟩,
                 ⟨(some 113), .bin .plain .eql (.t 110) (.t 112), none, []⟩,
                 ⟨(some 114), .mv (.t 1), none, []⟩,
                 ⟨(some 115), .b2s (.t 114), none, []⟩,
                 ⟨(some 116), .mv (.t 2), none, []⟩,
                 ⟨(some 117), .b2s (.t 116), none, []⟩,
                 ⟨(some 118), .bin .plain .eql (.t 115) (.t 117), none, []⟩,
                 ⟨(some 119), .mv (.t 118), none, []⟩,
                 ⟨(some 120), .mv (.t 13), (some (119, true)), []⟩,
                 ⟨(some 121), .b2s (.t 120), (some (119, true)), []⟩,
                 ⟨(some 122), .mv (.t 14), (some (119, true)), []⟩,
                 ⟨(some 123), .b2s (.t 122), (some (119, true)), []⟩,
                 ⟨(some 124), .bin .plain .eql (.t 121) (.t 123), (some (119, true)), []⟩,
                 ⟨(some 125), .pick (.t 119) (.t 124) (.k (.bool false)), none, []⟩,
                 ⟨(some 126), .bin .bool .eql (.t 113) (.t 125), none, []⟩,
                 ⟨(some 24), .mv (.t 126), none, []⟩])
               (.seq
                (.reg [] [
                  ⟨(some 127), .mv (.t 20), none, []⟩,
                  ⟨(some 128), .b2s (.t 127), none, []⟩,
                  ⟨(some 129), .mv (.t 22), none, []⟩,
                  ⟨(some 130), .b2s (.t 129), none, []⟩,
                  ⟨(some 131), .bin .plain .eql (.t 128) (.t 130), none, []⟩,
                  ⟨(some 132), .mv (.t 13), none, []⟩,
                  ⟨(some 133), .b2s (.t 132), none, []⟩,
                  ⟨(some 134), .mv (.t 14), none, []⟩,
                  ⟨(some 135), .b2s (.t 134), none, []⟩,
                  ⟨(some 136), .bin .plain .eql (.t 133) (.t 135), none, []⟩,
                  ⟨(some 137), .bin .bool .eql (.t 131) (.t 136), none, []⟩,
                  ⟨(some 25), .mv (.t 137), none, []⟩])
                (.seq
                 (.reg [] [
                   ⟨(some 138), .mv (.t 1), none, []⟩,
                   ⟨(some 139), .qcall 27 [(.t 138)] [], none, []⟩,
                   ⟨(some 140), .b2s (.t 139), none, []⟩,
                   ⟨(some 141), .mv (.t 2), none, []⟩,
                   ⟨(some 142), .qcall 27 [(.t 141)] [], none, []⟩,
                   ⟨(some 143), .b2s (.t 142), none, []⟩,
                   ⟨(some 144), .bin .plain .eql (.t 140) (.t 143), none, []⟩,
                   ⟨(some 145), .mv (.t 1), none, []⟩,
                   ⟨(some 146), .b2s (.t 145), none, []⟩,
                   ⟨(some 147), .mv (.t 2), none, []⟩,
                   ⟨(some 148), .b2s (.t 147), none, []⟩,
                   ⟨(some 149), .bin .plain .eql (.t 146) (.t 148), none, []⟩,
                   ⟨(some 150), .bin .bool .eql (.t 144) (.t 149), none, []⟩,
                   ⟨(some 26), .mv (.t 150), none, []⟩])
                 (.seq
                  (.reg [] [
                    ⟨(some 151), .mv (.t 16), none, []⟩,
                    ⟨(some 152), .b2s (.t 151), none, []⟩,
                    ⟨(some 153), .mv (.t 20), none, []⟩,
                    ⟨(some 154), .b2s (.t 153), none, []⟩,
                    ⟨(some 155), .bin .plain .neq (.t 152) (.t 154), none, []⟩,
                    ⟨(some 156), .mv (.t 155), none, []⟩,
                    ⟨(some 157), .mv (.t 16), (some (156, true)), []⟩,
                    ⟨(some 158), .b2s (.t 157), (some (156, true)), []⟩,
                    ⟨(some 159), .mv (.t 1), (some (156, true)), []⟩,
                    ⟨(some 160), .qcall 27 [(.t 159)] [], (some (156, true)), []⟩,
                    ⟨(some 161), .b2s (.t 160), (some (156, true)), []⟩,
                    ⟨(some 162), .bin .plain .neq (.t 158) (.t 161), (some (156, true)), []⟩,
                    ⟨(some 163), .pick (.t 156) (.t 162) (.k (.bool false)), none, []⟩,
                    ⟨(some 164), .mv (.t 163), none, []⟩,
                    ⟨(some 165), .mv (.t 20), (some (164, true)), []⟩,
                    ⟨(some 166), .b2s (.t 165), (some (164, true)), []⟩,
                    ⟨(some 167), .mv (.t 2), (some (164, true)), []⟩,
                    ⟨(some 168), .qcall 27 [(.t 167)] [], (some (164, true)), []⟩,
                    ⟨(some 169), .b2s (.t 168), (some (164, true)), []⟩,
                    ⟨(some 170), .bin .plain .neq (.t 166) (.t 169), (some (164, true)), []⟩,
                    ⟨(some 171), .pick (.t 164) (.t 170) (.k (.bool false)), none, []⟩,
                    ⟨(some 172), .mv (.t 171), none, []⟩,
                    ⟨(some 173), .qcall 34 [] [], (some (172, true)), []⟩,
                    ⟨(some 174), .b2s (.t 173), (some (172, true)), []⟩,
                    ⟨(some 175), .mv (.t 16), (some (172, true)), []⟩,
                    ⟨(some 176), .b2s (.t 175), (some (172, true)), []⟩,
                    ⟨(some 177), .bin .plain .neq (.t 174) (.t 176), (some (172, true)), []⟩,
                    ⟨(some 178), .pick (.t 172) (.t 177) (.k (.bool false)), none, []⟩,
                    ⟨(some 179), .mv (.t 178), none, []⟩,
                    ⟨(some 180), .qcall 34 [] [], (some (179, true)), []⟩,
                    ⟨(some 181), .b2s (.t 180), (some (179, true)), []⟩,
                    ⟨(some 182), .mv (.t 20), (some (179, true)), []⟩,
                    ⟨(some 183), .b2s (.t 182), (some (179, true)), []⟩,
                    ⟨(some 184), .bin .plain .neq (.t 181) (.t 183), (some (179, true)), []⟩,
                    ⟨(some 185), .pick (.t 179) (.t 184) (.k (.bool false)), none, []⟩,
                    ⟨(some 27), .mv (.t 185), none, []⟩])
                  (.seq
                   (.reg [] [
                     ⟨(some 186), .mv (.t 11), none, []⟩,
                     ⟨(some 187), .mv (.t 186), none, []⟩,
                     ⟨(some 188), .mv (.t 24), (some (187, true)), []⟩,
                     ⟨(some 189), .pick (.t 187) (.t 188) (.k (.bool false)), none, []⟩,
                     ⟨(some 190), .mv (.t 189), none, []⟩,
                     ⟨(some 191), .mv (.t 25), (some (190, true)), []⟩,
                     ⟨(some 192), .pick (.t 190) (.t 191) (.k (.bool false)), none, []⟩,
                     ⟨(some 193), .mv (.t 192), none, []⟩,
                     ⟨(some 194), .mv (.t 26), (some (193, true)), []⟩,
                     ⟨(some 195), .pick (.t 193) (.t 194) (.k (.bool false)), none, []⟩,
                     ⟨(some 196), .mv (.t 195), none, []⟩,
                     ⟨(some 197), .mv (.t 27), (some (196, true)), []⟩,
                     ⟨(some 198), .pick (.t 196) (.t 197) (.k (.bool false)), none, []⟩,
                     ⟨(some 10), .mv (.t 198), none, []⟩])
                   .ret))))))))))))))))),
  [.tmp 10], [], false⟩

def ir11j1 : List Bool := [true, false, false, true, true, true, true, false, false, false, false, false, false, false, false, false, false, false, false, false, false, false, false, false, false, false, false, false, false, false, false, false, false, false, false, false, false, false, false, false, false, false, false, false, false, false, false, false, false, false, false, false, false, false, false, false, false, false, false, false, false, false, false, false, false, false, false, false, false, false, false, false, false]
def ir11k0 : List Bool := [true, false, false, true, true, true, true, false, false, false, false, false, false, false, false, false, false, false, false, false, false, false, false, false, false, false, false, false, false, false, false, false, false, false, false, false, false, false, false, false, false, false, false, false, false, false, false, false, false, false, false, false, false, false, false, false, false, false, false, false, false, false, false, false, false, false, false, false, false, false, false, false, false]
def ir11b0 : IR :=
  (.seq
   (.seq
    (.reg [] [
      ⟨(some 31), .mv (.t 6), none, []⟩,
      ⟨(some 32), .mv (.t 3), none, []⟩,
      ⟨(some 33), .len false (.t 32), none, []⟩,
      ⟨(some 34), .bin .plain .lss (.t 31) (.t 33), none, []⟩])
    (.cond (.t 34)
     .skip
     (.exit 0)))
   (.seq
    (.block 1 ir11j1
     (.reg [] [
       ⟨(some 37), .mv (.t 3), none, []⟩,
       ⟨(some 38), .mv (.t 6), none, []⟩,
       ⟨(some 39), .mv (.t 3), none, []⟩,
       ⟨(some 40), .mv (.t 6), none, []⟩,
       ⟨(some 41), .ia 1 (.t 39) (.t 40), none, []⟩,
       ⟨(some 42), .load false 1 (.t 41), none, []⟩,
       ⟨(some 43), .bin .plain .add (.t 42) (.k (.int .u8 1)), none, []⟩,
       ⟨(some 44), .ia 1 (.t 37) (.t 38), none, []⟩,
       ⟨none, .store 1 (.t 44) (.t 43), none, []⟩]))
    (.reg [] [
      ⟨(some 35), .mv (.t 6), none, []⟩,
      ⟨(some 36), .bin .plain .add (.t 35) (.k (.int .i64 1)), none, []⟩,
      ⟨(some 6), .mv (.t 36), none, []⟩])))

def ir11j0 : List Bool := [true, false, false, false, true, true, false, false, false, false, false, false, false, false, false, false, false, false, false, false, false, false, false, false, false, false, false, false, false, false, false, false, false, false, false, false, false, false, false, false, false, false, false, false, false, false, false, false, false, false, false, false, false, false, false, false, false, false, false, false, false, false, false, false, false, false, false, false, false, false, false, false, false]
def ir11j3 : List Bool := [true, false, false, false, true, true, false, true, false, false, false, false, false, false, false, false, false, false, false, false, false, false, false, false, false, false, false, false, false, false, false, false, false, false, false, false, false, false, false, false, false, false, false, false, false, false, false, false, false, false, false, false, false, false, false, false, false, false, false, false, false, false, false, false, false, false, false, false, false, false, false, false, false]
def ir11k1 : List Bool := [true, false, false, false, true, true, false, true, false, false, false, false, false, false, false, false, false, false, false, false, false, false, false, false, false, false, false, false, false, false, false, false, false, false, false, false, false, false, false, false, false, false, false, false, false, false, false, false, false, false, false, false, false, false, false, false, false, false, false, false, false, false, false, false, false, false, false, false, false, false, false, false, false]
def ir11b1 : IR :=
  (.seq
   (.seq
    (.reg [] [
      ⟨(some 51), .mv (.t 7), none, []⟩,
      ⟨(some 52), .mv (.t 4), none, []⟩,
      ⟨(some 53), .len false (.t 52), none, []⟩,
      ⟨(some 54), .bin .plain .lss (.t 51) (.t 53), none, []⟩])
    (.cond (.t 54)
     .skip
     (.exit 2)))
   (.seq
    (.block 3 ir11j3
     (.reg [] [
       ⟨(some 57), .mv (.t 4), none, []⟩,
       ⟨(some 58), .mv (.t 7), none, []⟩,
       ⟨(some 59), .mv (.t 4), none, []⟩,
       ⟨(some 60), .mv (.t 7), none, []⟩,
       ⟨(some 61), .ia 1 (.t 59) (.t 60), none, []⟩,
       ⟨(some 62), .load false 1 (.t 61), none, []⟩,
       ⟨(some 63), .bin .plain .add (.t 62) (.k (.int .u8 1)), none, []⟩,
       ⟨(some 64), .ia 1 (.t 57) (.t 58), none, []⟩,
       ⟨none, .store 1 (.t 64) (.t 63), none, []⟩]))
    (.reg [] [
      ⟨(some 55), .mv (.t 7), none, []⟩,
      ⟨(some 56), .bin .plain .add (.t 55) (.k (.int .i64 1)), none, []⟩,
      ⟨(some 7), .mv (.t 56), none, []⟩])))

def ir11j2 : List Bool := [true, false, false, false, false, true, false, false, false, false, false, false, false, false, false, false, false, false, false, false, false, false, false, false, false, false, false, false, false, false, false, false, false, false, false, false, false, false, false, false, false, false, false, false, false, false, false, false, false, false, false, false, false, false, false, false, false, false, false, false, false, false, false, false, false, false, false, false, false, false, false, false, false]
/-- heartwood/heartwoodlaw02.CoderStays -/
def ir11 : Ev.Fn := ⟨1, 73, 3,
  (.seq
   (.reg [] [
     ⟨(some 2), .mv (.k (.bool false)), none, []⟩])
   (.seq
    (.reg [] [
      ⟨(some 8), .lit 0 5 1 0 [(.int .u8 0)] [], none, []⟩,
      ⟨(some 9), .mv (.t 0), none, []⟩,
      ⟨(some 10), .app 1 5 1 1 (.t 8) (.t 9), none, []⟩,
      ⟨(some 3), .mv (.t 10), none, []⟩])
    (.seq
     (.reg [] [
       ⟨(some 11), .mv (.t 3), none, []⟩,
       ⟨(some 12), .qcall 20 [(.t 11)] [], none, [11]⟩,
       ⟨(some 4), .mv (.t 12), none, []⟩])
     (.seq
      (.reg [] [
        ⟨(some 13), .mv (.t 4), none, []⟩,
        ⟨(some 14), .qcall 24 [(.t 13)] [2], none, []⟩,
        ⟨(some 5), .mv (.t 14), none, []⟩])
      (.seq
       (.seq
        (.reg [] [
          ⟨(some 15), .mv (.t 5), none, []⟩,
          ⟨(some 16), .bin .ptr .eql (.t 15) (.k (.pointer none)), none, []⟩,
          ⟨(some 17), .mv (.t 16), none, []⟩,
          ⟨(some 18), .mv (.t 3), (some (17, false)), []⟩,
          ⟨(some 19), .b2s (.t 18), (some (17, false)), []⟩,
          ⟨(some 20), .mv (.t 0), (some (17, false)), []⟩,
          ⟨(some 21), .b2s (.t 20), (some (17, false)), []⟩,
          ⟨(some 22), .bin .plain .neq (.t 19) (.t 21), (some (17, false)), []⟩,
          ⟨(some 23), .pick (.t 17) (.k (.bool true)) (.t 22), none, []⟩,
          ⟨(some 24), .mv (.t 23), none, []⟩,
          ⟨(some 25), .mv (.t 4), (some (24, false)), []⟩,
          ⟨(some 26), .len false (.t 25), (some (24, false)), []⟩,
          ⟨(some 27), .mv (.t 0), (some (24, false)), []⟩,
          ⟨(some 28), .len false (.t 27), (some (24, false)), []⟩,
          ⟨(some 29), .bin .plain .leq (.t 26) (.t 28), (some (24, false)), []⟩,
          ⟨(some 30), .pick (.t 24) (.k (.bool true)) (.t 29), none, []⟩])
        (.cond (.t 30)
         (.seq
          (.reg [] [
            ⟨(some 2), .mv (.k (.bool false)), none, []⟩])
          .ret)
         .skip))
       (.seq
        (.seq
         (.reg [] [
           ⟨(some 6), .mv (.k (.int .i64 0)), none, []⟩])
         (.block 0 ir11j0
          (.loop ir11k0 ir11b0)))
        (.seq
         (.seq
          (.reg [] [
            ⟨(some 45), .mv (.t 0), none, []⟩,
            ⟨(some 46), .qcall 20 [(.t 45)] [], none, []⟩,
            ⟨(some 47), .b2s (.t 46), none, []⟩,
            ⟨(some 48), .mv (.t 4), none, []⟩,
            ⟨(some 49), .b2s (.t 48), none, []⟩,
            ⟨(some 50), .bin .plain .neq (.t 47) (.t 49), none, []⟩])
          (.cond (.t 50)
           (.seq
            (.reg [] [
              ⟨(some 2), .mv (.k (.bool false)), none, []⟩])
            .ret)
           .skip))
         (.seq
          (.seq
           (.reg [] [
             ⟨(some 7), .mv (.k (.int .i64 0)), none, []⟩])
           (.block 2 ir11j2
            (.loop ir11k1 ir11b1)))
          (.seq
           (.reg [(3, 6)] [
             ⟨(some 65), .mv (.t 5), none, []⟩,
             ⟨(some 66), .mv (.t 0), none, []⟩,
             ⟨(some 67), .len false (.t 66), none, []⟩,
             ⟨(some 68), .call 35 [(.t 65), (.t 67)] [], none, []⟩,
             ⟨(some 69), .b2s (.t 68), none, []⟩,
             ⟨(some 70), .mv (.t 0), none, []⟩,
             ⟨(some 71), .b2s (.t 70), none, []⟩,
             ⟨(some 72), .bin .plain .eql (.t 69) (.t 71), none, []⟩,
             ⟨(some 2), .mv (.t 72), none, []⟩])
           .ret))))))))),
  [.tmp 2], [], false⟩

/-- (*heartwood/coder.Reader).Bytes -/
def ir35 : Ev.Fn := ⟨2, 39, 0,
  (.seq
   (.reg [] [
     ⟨(some 4), .mv (.k (.slice none 0 0)), none, []⟩])
   (.seq
    (.reg [] [
      ⟨(some 6), .mv (.t 0), none, []⟩,
      ⟨(some 7), .call 25 [(.t 6)] [], none, []⟩,
      ⟨(some 5), .mv (.t 7), none, []⟩])
    (.seq
     (.seq
      (.reg [] [
        ⟨(some 8), .mv (.t 0), none, []⟩,
        ⟨(some 9), .nilc (.t 8), none, []⟩,
        ⟨(some 10), .fa 1 (.t 9), none, []⟩,
        ⟨(some 11), .load false 1 (.t 10), none, []⟩,
        ⟨(some 12), .mv (.t 11), none, []⟩,
        ⟨(some 13), .mv (.t 1), (some (12, false)), []⟩,
        ⟨(some 14), .bin .plain .lss (.t 13) (.k (.int .i64 0)), (some (12, false)), []⟩,
        ⟨(some 15), .pick (.t 12) (.k (.bool true)) (.t 14), none, []⟩,
        ⟨(some 16), .mv (.t 15), none, []⟩,
        ⟨(some 17), .mv (.t 5), (some (16, false)), []⟩,
        ⟨(some 18), .mv (.t 1), (some (16, false)), []⟩,
        ⟨(some 19), .conv .u64 (.t 18), (some (16, false)), []⟩,
        ⟨(some 20), .bin .plain .gtr (.t 17) (.t 19), (some (16, false)), []⟩,
        ⟨(some 21), .pick (.t 16) (.k (.bool true)) (.t 20), none, []⟩,
        ⟨(some 22), .mv (.t 21), none, []⟩,
        ⟨(some 23), .mv (.t 5), (some (22, false)), []⟩,
        ⟨(some 24), .mv (.t 0), (some (22, false)), []⟩,
        ⟨(some 25), .nilc (.t 24), (some (22, false)), []⟩,
        ⟨(some 26), .fa 0 (.t 25), (some (22, false)), []⟩,
        ⟨(some 27), .load false 1 (.t 26), (some (22, false)), []⟩,
        ⟨(some 28), .len false (.t 27), (some (22, false)), []⟩,
        ⟨(some 29), .conv .u64 (.t 28), (some (22, false)), []⟩,
        ⟨(some 30), .bin .plain .gtr (.t 23) (.t 29), (some (22, false)), []⟩,
        ⟨(some 31), .pick (.t 22) (.k (.bool true)) (.t 30), none, []⟩])
      (.cond (.t 31)
       (.seq
        (.reg [] [
          ⟨(some 32), .mv (.t 0), none, []⟩,
          ⟨(some 33), .nilc (.t 32), none, []⟩,
          ⟨(some 34), .fa 1 (.t 33), none, []⟩,
          ⟨none, .store 1 (.t 34) (.k (.bool true)), none, []⟩])
        (.seq
         (.reg [] [
           ⟨(some 4), .mv (.k (.slice none 0 0)), none, []⟩])
         .ret))
       .skip))
     (.seq
      (.reg [] [
        ⟨(some 35), .mv (.t 0), none, []⟩,
        ⟨(some 36), .mv (.t 5), none, []⟩,
        ⟨(some 37), .conv .i64 (.t 36), none, []⟩,
        ⟨(some 38), .call 47 [(.t 35), (.t 37)] [], none, []⟩,
        ⟨(some 4), .mv (.t 38), none, []⟩])
      .ret)))),
  [.tmp 4], [], false⟩

def ir12j2 : List Bool := [false, true, false, false, false, true, true, true, true, false, false, false, false, false, false, false, false, false, false, false, false, false, false, false, false, false, false, false, false, false, false, false, false, false, false, false, false, false, false, false, false, false, false, false, false, false, false, false, false, false, false, false, false, false, false, false, false, false, false, false, false, false, false, false, false, false, false, false, false, false, false, false, false, false, false, false, false, false, false, false, false, false, false, false, false, false, false, false]
def ir12j1 : List Bool := [false, true, false, false, false, true, true, true, false, false, false, false, false, false, false, false, false, false, false, false, false, false, false, false, false, false, false, false, false, false, false, false, false, false, false, false, false, false, false, false, false, false, false, false, false, false, false, false, false, false, false, false, false, false, false, false, false, false, false, false, false, false, false, false, false, false, false, false, false, false, false, false, false, false, false, false, false, false, false, false, false, false, false, false, false, false, false, false]
def ir12k0 : List Bool := [false, true, false, false, false, true, true, true, false, false, false, false, false, false, false, false, false, false, false, false, false, false, false, false, false, false, false, false, false, false, false, false, false, false, false, false, false, false, false, false, false, false, false, false, false, false, false, false, false, false, false, false, false, false, false, false, false, false, false, false, false, false, false, false, false, false, false, false, false, false, false, false, false, false, false, false, false, false, false, false, false, false, false, false, false, false, false, false]
def ir12b0 : IR :=
  (.seq
   (.seq
    (.reg [] [
      ⟨(some 18), .mv (.t 7), none, []⟩,
      ⟨(some 19), .mv (.t 1), none, []⟩,
      ⟨(some 20), .len false (.t 19), none, []⟩,
      ⟨(some 21), .bin .plain .lss (.t 18) (.t 20), none, []⟩,
      ⟨(some 22), .mv (.t 21), none, []⟩,
      ⟨(some 23), .mv (.t 7), (some (22, true)), []⟩,
      ⟨(some 24), .bin .plain .lss (.t 23) (.k (.int .i64 100)), (some (22, true)), []⟩,
      ⟨(some 25), .pick (.t 22) (.t 24) (.k (.bool false)), none, []⟩])
    (.cond (.t 25)
     .skip
     (.exit 0)))
   (.seq
    (.block 1 ir12j1
     (.seq
      (.reg [] [
        ⟨(some 8), .mv (.k (.bool false)), none, []⟩])
      (.seq
       (.seq
        (.reg [] [
          ⟨(some 28), .mv (.t 1), none, []⟩,
          ⟨(some 29), .mv (.t 7), none, []⟩,
          ⟨(some 30), .ia 2 (.t 28) (.t 29), none, []⟩,
          ⟨(some 31), .fa 0 (.t 30), none, []⟩,
          ⟨(some 32), .load false 1 (.t 31), none, []⟩,
          ⟨(some 33), .qcall 36 [(.t 32), (.k (.int .i64 3))] [], none, []⟩])
        (.block 2 ir12j2
         (.seq
          (.reg [] [
            ⟨(some 52), .bin .plain .eql (.t 33) (.k (.int .i64 0)), none, []⟩,
            ⟨(some 51), .mv (.t 52), none, []⟩])
          (.cond (.t 51)
           (.reg [] [
             ⟨(some 53), .mv (.t 5), none, []⟩,
             ⟨(some 54), .call 25 [(.t 53)] [], none, []⟩,
             ⟨(some 55), .mv (.t 6), none, []⟩,
             ⟨(some 56), .call 37 [(.t 55)] [], none, []⟩,
             ⟨(some 57), .bin .plain .eql (.t 54) (.t 56), none, []⟩,
             ⟨(some 8), .mv (.t 57), none, []⟩])
           (.seq
            (.reg [] [
              ⟨(some 59), .bin .plain .eql (.t 33) (.k (.int .i64 1)), none, []⟩,
              ⟨(some 58), .mv (.t 59), none, []⟩])
            (.cond (.t 58)
             (.reg [] [
               ⟨(some 60), .mv (.t 5), none, []⟩,
               ⟨(some 61), .call 38 [(.t 60)] [], none, []⟩,
               ⟨(some 62), .mv (.t 6), none, []⟩,
               ⟨(some 63), .call 39 [(.t 62)] [], none, []⟩,
               ⟨(some 64), .bin .plain .eql (.t 61) (.t 63), none, []⟩,
               ⟨(some 8), .mv (.t 64), none, []⟩])
             (.reg [(6, 11), (6, 13), (7, 14)] [
               ⟨(some 34), .mv (.t 5), none, []⟩,
               ⟨(some 35), .mv (.t 1), none, []⟩,
               ⟨(some 36), .mv (.t 7), none, []⟩,
               ⟨(some 37), .ia 2 (.t 35) (.t 36), none, []⟩,
               ⟨(some 38), .fa 1 (.t 37), none, []⟩,
               ⟨(some 39), .load false 1 (.t 38), none, []⟩,
               ⟨(some 40), .call 35 [(.t 34), (.t 39)] [], none, []⟩,
               ⟨(some 41), .b2s (.t 40), none, []⟩,
               ⟨(some 42), .mv (.t 6), none, []⟩,
               ⟨(some 43), .mv (.t 1), none, []⟩,
               ⟨(some 44), .mv (.t 7), none, []⟩,
               ⟨(some 45), .ia 2 (.t 43) (.t 44), none, []⟩,
               ⟨(some 46), .fa 1 (.t 45), none, []⟩,
               ⟨(some 47), .load false 1 (.t 46), none, []⟩,
               ⟨(some 48), .call 40 [(.t 42), (.t 47)] [], none, []⟩,
               ⟨(some 49), .b2s (.t 48), none, []⟩,
               ⟨(some 50), .bin .plain .eql (.t 41) (.t 49), none, []⟩,
               ⟨(some 8), .mv (.t 50), none, []⟩])))))))
       (.seq
        (.reg [] [
          ⟨(some 65), .mv (.t 5), none, []⟩,
          ⟨(some 66), .call 41 [(.t 65)] [], none, []⟩,
          ⟨(some 9), .mv (.t 66), none, []⟩])
        (.seq
         (.reg [] [
           ⟨(some 67), .mv (.t 8), none, []⟩,
           ⟨(some 68), .un .not (.t 67), none, []⟩,
           ⟨(some 69), .mv (.t 68), none, []⟩,
           ⟨(some 70), .mv (.t 9), (some (69, false)), []⟩,
           ⟨(some 71), .qcall 42 [(.t 70)] [], (some (69, false)), []⟩,
           ⟨(some 72), .mv (.t 6), (some (69, false)), []⟩,
           ⟨(some 73), .call 43 [(.t 72)] [], (some (69, false)), []⟩,
           ⟨(some 74), .bin .plain .neq (.t 71) (.t 73), (some (69, false)), []⟩,
           ⟨(some 75), .pick (.t 69) (.k (.bool true)) (.t 74), none, []⟩])
         (.cond (.t 75)
          (.seq
           (.reg [] [
             ⟨(some 4), .mv (.k (.bool false)), none, []⟩])
           .ret)
          .skip))))))
    (.reg [] [
      ⟨(some 26), .mv (.t 7), none, []⟩,
      ⟨(some 27), .bin .plain .add (.t 26) (.k (.int .i64 1)), none, []⟩,
      ⟨(some 7), .mv (.t 27), none, []⟩])))

def ir12j0 : List Bool := [false, false, false, false, false, true, true, false, false, false, false, false, false, false, false, false, false, false, false, false, false, false, false, false, false, false, false, false, false, false, false, false, false, false, false, false, false, false, false, false, false, false, false, false, false, false, false, false, false, false, false, false, false, false, false, false, false, false, false, false, false, false, false, false, false, false, false, false, false, false, false, false, false, false, false, false, false, false, false, false, false, false, false, false, false, false, false, false]
/-- heartwood/heartwoodlaw02.CoderReads -/
def ir12 : Ev.Fn := ⟨2, 88, 2,
  (.seq
   (.reg [] [
     ⟨(some 4), .mv (.k (.bool false)), none, []⟩])
   (.seq
    (.reg [] [
      ⟨(some 11), .mv (.t 0), none, []⟩,
      ⟨(some 12), .qcall 24 [(.t 11)] [0], none, []⟩,
      ⟨(some 5), .mv (.t 12), none, []⟩])
    (.seq
     (.reg [] [
       ⟨(some 13), .mv (.t 0), none, []⟩,
       ⟨(some 14), .build [(.slice none 0 0), (.int .i64 0), (.bool false)] [(0, 1, (.t 13))], none, []⟩,
       ⟨(some 15), .box 1 3 (.t 14), none, []⟩,
       ⟨(some 6), .mv (.t 15), none, []⟩])
     (.seq
      (.seq
       (.reg [] [
         ⟨(some 16), .mv (.t 5), none, []⟩,
         ⟨(some 17), .bin .ptr .eql (.t 16) (.k (.pointer none)), none, []⟩])
       (.cond (.t 17)
        (.seq
         (.reg [] [
           ⟨(some 4), .mv (.k (.bool false)), none, []⟩])
         .ret)
        .skip))
      (.seq
       (.seq
        (.reg [] [
          ⟨(some 7), .mv (.k (.int .i64 0)), none, []⟩])
        (.block 0 ir12j0
         (.loop ir12k0 ir12b0)))
       (.seq
        (.reg [] [
          ⟨(some 76), .mv (.t 5), none, []⟩,
          ⟨(some 77), .call 41 [(.t 76)] [], none, []⟩,
          ⟨(some 10), .mv (.t 77), none, []⟩])
        (.seq
         (.reg [] [
           ⟨(some 78), .mv (.t 10), none, []⟩,
           ⟨(some 79), .qcall 42 [(.t 78)] [], none, []⟩,
           ⟨(some 80), .mv (.t 6), none, []⟩,
           ⟨(some 81), .call 43 [(.t 80)] [], none, []⟩,
           ⟨(some 82), .bin .plain .eql (.t 79) (.t 81), none, []⟩,
           ⟨(some 83), .mv (.t 82), none, []⟩,
           ⟨(some 84), .qcall 18 [(.k (.int .u64 248))] [], (some (83, true)), []⟩,
           ⟨(some 85), .b2s (.t 84), (some (83, true)), []⟩,
           ⟨(some 86), .bin .plain .eql (.t 85) (.k (.string ⟨#[248, 248]⟩)), (some (83, true)), []⟩,
           ⟨(some 87), .pick (.t 83) (.t 86) (.k (.bool false)), none, []⟩,
           ⟨(some 4), .mv (.t 87), none, []⟩])
         .ret))))))),
  [.tmp 4], [], false⟩

/-- heartwood/heartwoodlaw02.pick -/
def ir36 : Ev.Fn := ⟨2, 13, 0,
  (.seq
   (.reg [] [
     ⟨(some 4), .mv (.k (.int .i64 0)), none, []⟩])
   (.seq
    (.seq
     (.reg [] [
       ⟨(some 5), .mv (.t 0), none, []⟩,
       ⟨(some 6), .bin .plain .lss (.t 5) (.k (.int .i64 0)), none, []⟩])
     (.cond (.t 6)
      (.reg [] [
        ⟨(some 7), .mv (.t 0), none, []⟩,
        ⟨(some 8), .bin .plain .add (.t 7) (.k (.int .i64 1)), none, []⟩,
        ⟨(some 9), .un .neg (.t 8), none, []⟩,
        ⟨(some 0), .mv (.t 9), none, []⟩])
      .skip))
    (.seq
     (.reg [] [
       ⟨(some 10), .mv (.t 0), none, []⟩,
       ⟨(some 11), .mv (.t 1), none, []⟩,
       ⟨(some 12), .bin .plain .rem (.t 10) (.t 11), none, []⟩,
       ⟨(some 4), .mv (.t 12), none, []⟩])
     .ret))),
  [.tmp 4], [], false⟩

def ir37j1 : List Bool := [true, false, false, false, true, true, true, false, false, false, false, false, false, false, false, false, false, false, false, false, false, false, false, false, false, false, false, false, false, false, false, false, false, false, false, false, false, false, false, false, false, false, false, false, false, false, false, false, false, false, false, false, false, false, false, false, false, false, false, false, false, false, false, false, false, false, false, false, false, false, false, false, false, false, false, false, false, false, false, false, false, false, false, false, false, false]
def ir37k0 : List Bool := [true, false, false, false, true, true, true, false, false, false, false, false, false, false, false, false, false, false, false, false, false, false, false, false, false, false, false, false, false, false, false, false, false, false, false, false, false, false, false, false, false, false, false, false, false, false, false, false, false, false, false, false, false, false, false, false, false, false, false, false, false, false, false, false, false, false, false, false, false, false, false, false, false, false, false, false, false, false, false, false, false, false, false, false, false, false]
def ir37b0 : IR :=
  (.seq
   (.seq
    (.reg [] [
      ⟨(some 37), .mv (.t 6), none, []⟩,
      ⟨(some 38), .mv (.t 4), none, []⟩,
      ⟨(some 39), .bin .plain .lss (.t 37) (.t 38), none, []⟩])
    (.cond (.t 39)
     .skip
     (.exit 0)))
   (.seq
    (.block 1 ir37j1
     (.reg [] [
       ⟨(some 42), .mv (.t 5), none, []⟩,
       ⟨(some 43), .bin .plain .mul (.k (.int .u64 256)) (.t 42), none, []⟩,
       ⟨(some 44), .mv (.t 0), none, []⟩,
       ⟨(some 45), .nilc (.t 44), none, []⟩,
       ⟨(some 46), .fa 0 (.t 45), none, []⟩,
       ⟨(some 47), .load false 1 (.t 46), none, []⟩,
       ⟨(some 48), .mv (.t 0), none, []⟩,
       ⟨(some 49), .nilc (.t 48), none, []⟩,
       ⟨(some 50), .fa 1 (.t 49), none, []⟩,
       ⟨(some 51), .load false 1 (.t 50), none, []⟩,
       ⟨(some 52), .mv (.t 6), none, []⟩,
       ⟨(some 53), .bin .plain .add (.t 51) (.t 52), none, []⟩,
       ⟨(some 54), .ia 1 (.t 47) (.t 53), none, []⟩,
       ⟨(some 55), .load false 1 (.t 54), none, []⟩,
       ⟨(some 56), .conv .u64 (.t 55), none, []⟩,
       ⟨(some 57), .bin .plain .add (.t 43) (.t 56), none, []⟩,
       ⟨(some 5), .mv (.t 57), none, []⟩]))
    (.reg [] [
      ⟨(some 40), .mv (.t 6), none, []⟩,
      ⟨(some 41), .bin .plain .add (.t 40) (.k (.int .i64 1)), none, []⟩,
      ⟨(some 6), .mv (.t 41), none, []⟩])))

def ir37j0 : List Bool := [true, false, false, false, true, true, false, false, false, false, false, false, false, false, false, false, false, false, false, false, false, false, false, false, false, false, false, false, false, false, false, false, false, false, false, false, false, false, false, false, false, false, false, false, false, false, false, false, false, false, false, false, false, false, false, false, false, false, false, false, false, false, false, false, false, false, false, false, false, false, false, false, false, false, false, false, false, false, false, false, false, false, false, false, false, false]
/-- (*heartwood/heartwoodref02.Reader).Number -/
def ir37 : Ev.Fn := ⟨1, 86, 0,
  (.seq
   (.reg [] [
     ⟨(some 2), .mv (.k (.int .u64 0)), none, []⟩])
   (.seq
    (.reg [] [
      ⟨(some 7), .mv (.t 0), none, []⟩,
      ⟨(some 8), .call 39 [(.t 7)] [], none, []⟩,
      ⟨(some 3), .mv (.t 8), none, []⟩])
    (.seq
     (.seq
      (.reg [] [
        ⟨(some 9), .mv (.t 0), none, []⟩,
        ⟨(some 10), .nilc (.t 9), none, []⟩,
        ⟨(some 11), .fa 2 (.t 10), none, []⟩,
        ⟨(some 12), .load false 1 (.t 11), none, []⟩,
        ⟨(some 13), .mv (.t 12), none, []⟩,
        ⟨(some 14), .mv (.t 3), (some (13, false)), []⟩,
        ⟨(some 15), .bin .plain .lss (.t 14) (.k (.int .u8 248)), (some (13, false)), []⟩,
        ⟨(some 16), .pick (.t 13) (.k (.bool true)) (.t 15), none, []⟩])
      (.cond (.t 16)
       (.seq
        (.reg [] [
          ⟨(some 17), .mv (.t 3), none, []⟩,
          ⟨(some 18), .conv .u64 (.t 17), none, []⟩,
          ⟨(some 2), .mv (.t 18), none, []⟩])
        .ret)
       .skip))
     (.seq
      (.reg [] [
        ⟨(some 19), .mv (.t 3), none, []⟩,
        ⟨(some 20), .conv .i64 (.t 19), none, []⟩,
        ⟨(some 21), .bin .plain .sub (.t 20) (.k (.int .i64 247)), none, []⟩,
        ⟨(some 4), .mv (.t 21), none, []⟩])
      (.seq
       (.seq
        (.reg [] [
          ⟨(some 22), .mv (.t 0), none, []⟩,
          ⟨(some 23), .nilc (.t 22), none, []⟩,
          ⟨(some 24), .fa 0 (.t 23), none, []⟩,
          ⟨(some 25), .load false 1 (.t 24), none, []⟩,
          ⟨(some 26), .len false (.t 25), none, []⟩,
          ⟨(some 27), .mv (.t 0), none, []⟩,
          ⟨(some 28), .nilc (.t 27), none, []⟩,
          ⟨(some 29), .fa 1 (.t 28), none, []⟩,
          ⟨(some 30), .load false 1 (.t 29), none, []⟩,
          ⟨(some 31), .bin .plain .sub (.t 26) (.t 30), none, []⟩,
          ⟨(some 32), .mv (.t 4), none, []⟩,
          ⟨(some 33), .bin .plain .lss (.t 31) (.t 32), none, []⟩])
        (.cond (.t 33)
         (.seq
          (.reg [] [
            ⟨(some 34), .mv (.t 0), none, []⟩,
            ⟨(some 35), .nilc (.t 34), none, []⟩,
            ⟨(some 36), .fa 2 (.t 35), none, []⟩,
            ⟨none, .store 1 (.t 36) (.k (.bool true)), none, []⟩])
          (.seq
           (.reg [] [
             ⟨(some 2), .mv (.k (.int .u64 0)), none, []⟩])
           .ret))
         .skip))
       (.seq
        (.reg [] [
          ⟨(some 5), .mv (.k (.int .u64 0)), none, []⟩])
        (.seq
         (.seq
          (.reg [] [
            ⟨(some 6), .mv (.k (.int .i64 0)), none, []⟩])
          (.block 0 ir37j0
           (.loop ir37k0 ir37b0)))
         (.seq
          (.seq
           (.reg [] [
             ⟨(some 58), .mv (.t 0), none, []⟩,
             ⟨(some 59), .nilc (.t 58), none, []⟩,
             ⟨(some 60), .fa 0 (.t 59), none, []⟩,
             ⟨(some 61), .load false 1 (.t 60), none, []⟩,
             ⟨(some 62), .mv (.t 0), none, []⟩,
             ⟨(some 63), .nilc (.t 62), none, []⟩,
             ⟨(some 64), .fa 1 (.t 63), none, []⟩,
             ⟨(some 65), .load false 1 (.t 64), none, []⟩,
             ⟨(some 66), .ia 1 (.t 61) (.t 65), none, []⟩,
             ⟨(some 67), .load false 1 (.t 66), none, []⟩,
             ⟨(some 68), .bin .plain .eql (.t 67) (.k (.int .u8 0)), none, []⟩,
             ⟨(some 69), .mv (.t 68), none, []⟩,
             ⟨(some 70), .mv (.t 5), (some (69, false)), []⟩,
             ⟨(some 71), .bin .plain .lss (.t 70) (.k (.int .u64 248)), (some (69, false)), []⟩,
             ⟨(some 72), .pick (.t 69) (.k (.bool true)) (.t 71), none, []⟩])
           (.cond (.t 72)
            (.seq
             (.reg [] [
               ⟨(some 73), .mv (.t 0), none, []⟩,
               ⟨(some 74), .nilc (.t 73), none, []⟩,
               ⟨(some 75), .fa 2 (.t 74), none, []⟩,
               ⟨none, .store 1 (.t 75) (.k (.bool true)), none, []⟩])
             (.seq
              (.reg [] [
                ⟨(some 2), .mv (.k (.int .u64 0)), none, []⟩])
              .ret))
            .skip))
          (.seq
           (.reg [] [
             ⟨(some 76), .mv (.t 0), none, []⟩,
             ⟨(some 77), .mv (.t 0), none, []⟩,
             ⟨(some 78), .nilc (.t 77), none, []⟩,
             ⟨(some 79), .fa 1 (.t 78), none, []⟩,
             ⟨(some 80), .load false 1 (.t 79), none, []⟩,
             ⟨(some 81), .mv (.t 4), none, []⟩,
             ⟨(some 82), .bin .plain .add (.t 80) (.t 81), none, []⟩,
             ⟨(some 83), .nilc (.t 76), none, []⟩,
             ⟨(some 84), .fa 1 (.t 83), none, []⟩,
             ⟨none, .store 1 (.t 84) (.t 82), none, []⟩])
           (.seq
            (.reg [] [
              ⟨(some 85), .mv (.t 5), none, []⟩,
              ⟨(some 2), .mv (.t 85), none, []⟩])
            .ret)))))))))),
  [.tmp 2], [], false⟩

/-- (*heartwood/heartwoodref02.Reader).Byte -/
def ir39 : Ev.Fn := ⟨1, 40, 0,
  (.seq
   (.reg [] [
     ⟨(some 2), .mv (.k (.int .u8 0)), none, []⟩])
   (.seq
    (.seq
     (.reg [] [
       ⟨(some 3), .mv (.t 0), none, []⟩,
       ⟨(some 4), .nilc (.t 3), none, []⟩,
       ⟨(some 5), .fa 2 (.t 4), none, []⟩,
       ⟨(some 6), .load false 1 (.t 5), none, []⟩,
       ⟨(some 7), .mv (.t 6), none, []⟩,
       ⟨(some 8), .mv (.t 0), (some (7, false)), []⟩,
       ⟨(some 9), .nilc (.t 8), (some (7, false)), []⟩,
       ⟨(some 10), .fa 1 (.t 9), (some (7, false)), []⟩,
       ⟨(some 11), .load false 1 (.t 10), (some (7, false)), []⟩,
       ⟨(some 12), .mv (.t 0), (some (7, false)), []⟩,
       ⟨(some 13), .nilc (.t 12), (some (7, false)), []⟩,
       ⟨(some 14), .fa 0 (.t 13), (some (7, false)), []⟩,
       ⟨(some 15), .load false 1 (.t 14), (some (7, false)), []⟩,
       ⟨(some 16), .len false (.t 15), (some (7, false)), []⟩,
       ⟨(some 17), .bin .plain .geq (.t 11) (.t 16), (some (7, false)), []⟩,
       ⟨(some 18), .pick (.t 7) (.k (.bool true)) (.t 17), none, []⟩])
     (.cond (.t 18)
      (.seq
       (.reg [] [
         ⟨(some 19), .mv (.t 0), none, []⟩,
         ⟨(some 20), .nilc (.t 19), none, []⟩,
         ⟨(some 21), .fa 2 (.t 20), none, []⟩,
         ⟨none, .store 1 (.t 21) (.k (.bool true)), none, []⟩])
       (.seq
        (.reg [] [
          ⟨(some 2), .mv (.k (.int .u8 0)), none, []⟩])
        .ret))
      .skip))
    (.seq
     (.reg [] [
       ⟨(some 22), .mv (.t 0), none, []⟩,
       ⟨(some 23), .nilc (.t 22), none, []⟩,
       ⟨(some 24), .fa 1 (.t 23), none, []⟩,
       ⟨(some 25), .load false 1 (.t 24), none, []⟩,
       ⟨(some 26), .bin .plain .add (.t 25) (.k (.int .i64 1)), none, []⟩,
       ⟨(some 27), .nilc (.t 22), none, []⟩,
       ⟨(some 28), .fa 1 (.t 27), none, []⟩,
       ⟨none, .store 1 (.t 28) (.t 26), none, []⟩])
     (.seq
      (.reg [] [
        ⟨(some 29), .mv (.t 0), none, []⟩,
        ⟨(some 30), .nilc (.t 29), none, []⟩,
        ⟨(some 31), .fa 0 (.t 30), none, []⟩,
        ⟨(some 32), .load false 1 (.t 31), none, []⟩,
        ⟨(some 33), .mv (.t 0), none, []⟩,
        ⟨(some 34), .nilc (.t 33), none, []⟩,
        ⟨(some 35), .fa 1 (.t 34), none, []⟩,
        ⟨(some 36), .load false 1 (.t 35), none, []⟩,
        ⟨(some 37), .bin .plain .sub (.t 36) (.k (.int .i64 1)), none, []⟩,
        ⟨(some 38), .ia 1 (.t 32) (.t 37), none, []⟩,
        ⟨(some 39), .load false 1 (.t 38), none, []⟩,
        ⟨(some 2), .mv (.t 39), none, []⟩])
      .ret)))),
  [.tmp 2], [], false⟩

/-- (*heartwood/heartwoodref02.Reader).Bytes -/
def ir40 : Ev.Fn := ⟨2, 70, 2,
  (.seq
   (.reg [] [
     ⟨(some 4), .mv (.k (.slice none 0 0)), none, []⟩])
   (.seq
    (.reg [] [
      ⟨(some 7), .mv (.t 0), none, []⟩,
      ⟨(some 8), .call 37 [(.t 7)] [], none, []⟩,
      ⟨(some 5), .mv (.t 8), none, []⟩])
    (.seq
     (.seq
      (.reg [] [
        ⟨(some 9), .mv (.t 0), none, []⟩,
        ⟨(some 10), .nilc (.t 9), none, []⟩,
        ⟨(some 11), .fa 2 (.t 10), none, []⟩,
        ⟨(some 12), .load false 1 (.t 11), none, []⟩,
        ⟨(some 13), .mv (.t 12), none, []⟩,
        ⟨(some 14), .mv (.t 1), (some (13, false)), []⟩,
        ⟨(some 15), .bin .plain .lss (.t 14) (.k (.int .i64 0)), (some (13, false)), []⟩,
        ⟨(some 16), .pick (.t 13) (.k (.bool true)) (.t 15), none, []⟩,
        ⟨(some 17), .mv (.t 16), none, []⟩,
        ⟨(some 18), .mv (.t 5), (some (17, false)), []⟩,
        ⟨(some 19), .mv (.t 1), (some (17, false)), []⟩,
        ⟨(some 20), .conv .u64 (.t 19), (some (17, false)), []⟩,
        ⟨(some 21), .bin .plain .gtr (.t 18) (.t 20), (some (17, false)), []⟩,
        ⟨(some 22), .pick (.t 17) (.k (.bool true)) (.t 21), none, []⟩,
        ⟨(some 23), .mv (.t 22), none, []⟩,
        ⟨(some 24), .mv (.t 5), (some (23, false)), []⟩,
        ⟨(some 25), .mv (.t 0), (some (23, false)), []⟩,
        ⟨(some 26), .nilc (.t 25), (some (23, false)), []⟩,
        ⟨(some 27), .fa 0 (.t 26), (some (23, false)), []⟩,
        ⟨(some 28), .load false 1 (.t 27), (some (23, false)), []⟩,
        ⟨(some 29), .len false (.t 28), (some (23, false)), []⟩,
        ⟨(some 30), .mv (.t 0), (some (23, false)), []⟩,
        ⟨(some 31), .nilc (.t 30), (some (23, false)), []⟩,
        ⟨(some 32), .fa 1 (.t 31), (some (23, false)), []⟩,
        ⟨(some 33), .load false 1 (.t 32), (some (23, false)), []⟩,
        ⟨(some 34), .bin .plain .sub (.t 29) (.t 33), (some (23, false)), []⟩,
        ⟨(some 35), .conv .u64 (.t 34), (some (23, false)), []⟩,
        ⟨(some 36), .bin .plain .gtr (.t 24) (.t 35), (some (23, false)), []⟩,
        ⟨(some 37), .pick (.t 23) (.k (.bool true)) (.t 36), none, []⟩])
      (.cond (.t 37)
       (.seq
        (.reg [] [
          ⟨(some 38), .mv (.t 0), none, []⟩,
          ⟨(some 39), .nilc (.t 38), none, []⟩,
          ⟨(some 40), .fa 2 (.t 39), none, []⟩,
          ⟨none, .store 1 (.t 40) (.k (.bool true)), none, []⟩])
        (.seq
         (.reg [] [
           ⟨(some 4), .mv (.k (.slice none 0 0)), none, []⟩])
         .ret))
       .skip))
     (.seq
      (.reg [(0, 4), (0, 8), (0, 12), (0, 16)] [
        ⟨(some 41), .lit 0 5 1 0 [(.int .u8 0)] [], none, []⟩,
        ⟨(some 42), .mv (.t 0), none, []⟩,
        ⟨(some 43), .nilc (.t 42), none, []⟩,
        ⟨(some 44), .fa 0 (.t 43), none, []⟩,
        ⟨(some 45), .load false 1 (.t 44), none, []⟩,
        ⟨(some 46), .mv (.t 0), none, []⟩,
        ⟨(some 47), .nilc (.t 46), none, []⟩,
        ⟨(some 48), .fa 1 (.t 47), none, []⟩,
        ⟨(some 49), .load false 1 (.t 48), none, []⟩,
        ⟨(some 50), .mv (.t 0), none, []⟩,
        ⟨(some 51), .nilc (.t 50), none, []⟩,
        ⟨(some 52), .fa 1 (.t 51), none, []⟩,
        ⟨(some 53), .load false 1 (.t 52), none, []⟩,
        ⟨(some 54), .mv (.t 5), none, []⟩,
        ⟨(some 55), .conv .i64 (.t 54), none, []⟩,
        ⟨(some 56), .bin .plain .add (.t 53) (.t 55), none, []⟩,
        ⟨(some 57), .slice 1 (.t 45) (some (.t 49)) (some (.t 56)) none, none, [45]⟩,
        ⟨(some 58), .app 1 5 1 1 (.t 41) (.t 57), none, []⟩,
        ⟨(some 6), .mv (.t 58), none, [58]⟩])
      (.seq
       (.reg [] [
         ⟨(some 59), .mv (.t 0), none, []⟩,
         ⟨(some 60), .mv (.t 0), none, []⟩,
         ⟨(some 61), .nilc (.t 60), none, []⟩,
         ⟨(some 62), .fa 1 (.t 61), none, []⟩,
         ⟨(some 63), .load false 1 (.t 62), none, []⟩,
         ⟨(some 64), .mv (.t 5), none, []⟩,
         ⟨(some 65), .conv .i64 (.t 64), none, []⟩,
         ⟨(some 66), .bin .plain .add (.t 63) (.t 65), none, []⟩,
         ⟨(some 67), .nilc (.t 59), none, []⟩,
         ⟨(some 68), .fa 1 (.t 67), none, []⟩,
         ⟨none, .store 1 (.t 68) (.t 66), none, []⟩])
       (.seq
        (.reg [] [
          ⟨(some 69), .mv (.t 6), none, []⟩,
          ⟨(some 4), .mv (.t 69), none, []⟩])
        .ret)))))),
  [.tmp 4], [], false⟩

def ir41j0 : List Bool := [false, false, false, false, false, false, false, false, false, false, false, false, false, false, false, false, false]
/-- (*heartwood/coder.Reader).End -/
def ir41 : Ev.Fn := ⟨1, 17, 0,
  (.seq
   (.reg [] [
     ⟨(some 2), .mv (.k .nilIface), none, []⟩])
   (.seq
    (.block 0 ir41j0
     (.seq
      (.reg [] [
        ⟨(some 4), .mv (.t 0), none, []⟩,
        ⟨(some 5), .nilc (.t 4), none, []⟩,
        ⟨(some 6), .fa 1 (.t 5), none, []⟩,
        ⟨(some 7), .load false 1 (.t 6), none, []⟩,
        ⟨(some 3), .mv (.t 7), none, []⟩])
      (.cond (.t 3)
       (.seq
        (.reg [] [
          ⟨(some 8), .mki 31 (.k (.int .i64 3)), none, []⟩,
          ⟨(some 2), .mv (.t 8), none, []⟩])
        .ret)
       (.seq
        (.reg [] [
          ⟨(some 10), .mv (.t 0), none, []⟩,
          ⟨(some 11), .nilc (.t 10), none, []⟩,
          ⟨(some 12), .fa 0 (.t 11), none, []⟩,
          ⟨(some 13), .load false 1 (.t 12), none, []⟩,
          ⟨(some 14), .len false (.t 13), none, []⟩,
          ⟨(some 15), .bin .plain .gtr (.t 14) (.k (.int .i64 0)), none, []⟩,
          ⟨(some 9), .mv (.t 15), none, []⟩])
        (.cond (.t 9)
         (.seq
          (.reg [] [
            ⟨(some 16), .mki 31 (.k (.int .i64 4)), none, []⟩,
            ⟨(some 2), .mv (.t 16), none, []⟩])
          .ret)
         .skip)))))
    (.seq
     (.reg [] [
       ⟨(some 2), .mv (.k .nilIface), none, []⟩])
     .ret))),
  [.tmp 2], [], false⟩

def ir42j1 : List Bool := [true, false, false, true, false, false, false, false, false, false, false, false, false, false, false]
def ir42k0 : List Bool := [true, false, false, true, false, false, false, false, false, false, false, false, false, false, false]
def ir42b0 : IR :=
  (.seq
   (.seq
    (.reg [] [
      ⟨(some 6), .mv (.t 3), none, []⟩,
      ⟨(some 7), .bin .plain .leq (.t 6) (.k (.int .i64 13)), none, []⟩])
    (.cond (.t 7)
     .skip
     (.exit 0)))
   (.seq
    (.block 1 ir42j1
     (.seq
      (.reg [] [
        ⟨(some 10), .mv (.t 0), none, []⟩,
        ⟨(some 11), .mv (.t 3), none, []⟩,
        ⟨(some 12), .mki 31 (.t 11), none, []⟩,
        ⟨(some 13), .bin (.iface 31 false) .eql (.t 10) (.t 12), none, []⟩])
      (.cond (.t 13)
       (.seq
        (.reg [] [
          ⟨(some 14), .mv (.t 3), none, []⟩,
          ⟨(some 2), .mv (.t 14), none, []⟩])
        .ret)
       .skip)))
    (.reg [] [
      ⟨(some 8), .mv (.t 3), none, []⟩,
      ⟨(some 9), .bin .plain .add (.t 8) (.k (.int .i64 1)), none, []⟩,
      ⟨(some 3), .mv (.t 9), none, []⟩])))

def ir42j0 : List Bool := [false, false, false, false, false, false, false, false, false, false, false, false, false, false, false]
/-- heartwood/heartwoodlaw00.Code -/
def ir42 : Ev.Fn := ⟨1, 15, 0,
  (.seq
   (.reg [] [
     ⟨(some 2), .mv (.k (.int .i64 0)), none, []⟩])
   (.seq
    (.seq
     (.reg [] [
       ⟨(some 4), .mv (.t 0), none, []⟩,
       ⟨(some 5), .bin (.iface 31 true) .eql (.t 4) (.k .nilIface), none, []⟩])
     (.cond (.t 5)
      (.seq
       (.reg [] [
         ⟨(some 2), .mv (.k (.int .i64 0)), none, []⟩])
       .ret)
      .skip))
    (.seq
     (.seq
      (.reg [] [
        ⟨(some 3), .mv (.k (.int .i64 1)), none, []⟩])
      (.block 0 ir42j0
       (.loop ir42k0 ir42b0)))
     (.seq
      (.reg [] [
        ⟨(some 2), .mv (.k (.int .i64 (-1))), none, []⟩])
      .ret)))),
  [.tmp 2], [], false⟩

/-- (*heartwood/heartwoodref02.Reader).End -/
def ir43 : Ev.Fn := ⟨1, 17, 0,
  (.seq
   (.reg [] [
     ⟨(some 2), .mv (.k (.int .i64 0)), none, []⟩])
   (.seq
    (.seq
     (.reg [] [
       ⟨(some 3), .mv (.t 0), none, []⟩,
       ⟨(some 4), .nilc (.t 3), none, []⟩,
       ⟨(some 5), .fa 2 (.t 4), none, []⟩,
       ⟨(some 6), .load false 1 (.t 5), none, []⟩])
     (.cond (.t 6)
      (.seq
       (.reg [] [
         ⟨(some 2), .mv (.k (.int .i64 3)), none, []⟩])
       .ret)
      .skip))
    (.seq
     (.seq
      (.reg [] [
        ⟨(some 7), .mv (.t 0), none, []⟩,
        ⟨(some 8), .nilc (.t 7), none, []⟩,
        ⟨(some 9), .fa 1 (.t 8), none, []⟩,
        ⟨(some 10), .load false 1 (.t 9), none, []⟩,
        ⟨(some 11), .mv (.t 0), none, []⟩,
        ⟨(some 12), .nilc (.t 11), none, []⟩,
        ⟨(some 13), .fa 0 (.t 12), none, []⟩,
        ⟨(some 14), .load false 1 (.t 13), none, []⟩,
        ⟨(some 15), .len false (.t 14), none, []⟩,
        ⟨(some 16), .bin .plain .lss (.t 10) (.t 15), none, []⟩])
      (.cond (.t 16)
       (.seq
        (.reg [] [
          ⟨(some 2), .mv (.k (.int .i64 4)), none, []⟩])
        .ret)
       .skip))
     (.seq
      (.reg [] [
        ⟨(some 2), .mv (.k (.int .i64 0)), none, []⟩])
      .ret)))),
  [.tmp 2], [], false⟩

def ir13j1 : List Bool := [true, true, false, false, false, true, true, false, false, false, false, false, false, false, false, false, false, false, false, false, false, false, false, false, false, false, false, false, false, false, false, false, false, false, false, false, false, false, false, false, false, false, false, false, false, false, false, false, false, false, false, false, false, false, false, false, false, false, false, false, false, false, false, false, false, false, false, false, false, false, false, false, false, false, false, false, false, false, false, false, false, false, false, false, false, false, false, false, false, false, false, false, false, false, false, false, false, false, false, false, false]
def ir13k0 : List Bool := [true, true, false, false, false, true, true, false, false, false, false, false, false, false, false, false, false, false, false, false, false, false, false, false, false, false, false, false, false, false, false, false, false, false, false, false, false, false, false, false, false, false, false, false, false, false, false, false, false, false, false, false, false, false, false, false, false, false, false, false, false, false, false, false, false, false, false, false, false, false, false, false, false, false, false, false, false, false, false, false, false, false, false, false, false, false, false, false, false, false, false, false, false, false, false, false, false, false, false, false, false]
def ir13b0 : IR :=
  (.seq
   (.seq
    (.reg [] [
      ⟨(some 12), .mv (.t 6), none, []⟩,
      ⟨(some 13), .mv (.t 0), none, []⟩,
      ⟨(some 14), .len false (.t 13), none, []⟩,
      ⟨(some 15), .bin .plain .lss (.t 12) (.t 14), none, []⟩,
      ⟨(some 16), .mv (.t 15), none, []⟩,
      ⟨(some 17), .mv (.t 6), (some (16, true)), []⟩,
      ⟨(some 18), .bin .plain .lss (.t 17) (.k (.int .i64 50)), (some (16, true)), []⟩,
      ⟨(some 19), .pick (.t 16) (.t 18) (.k (.bool false)), none, []⟩])
    (.cond (.t 19)
     .skip
     (.exit 0)))
   (.seq
    (.block 1 ir13j1
     (.reg [] [
       ⟨(some 22), .mv (.t 5), none, []⟩,
       ⟨(some 23), .mv (.t 0), none, []⟩,
       ⟨(some 24), .mv (.t 6), none, []⟩,
       ⟨(some 25), .ia 1 (.t 23) (.t 24), none, []⟩,
       ⟨(some 26), .load false 1 (.t 25), none, []⟩,
       ⟨(some 27), .qcall 18 [(.t 26)] [], none, []⟩,
       ⟨(some 28), .app 0 5 1 1 (.t 22) (.t 27), none, []⟩,
       ⟨(some 5), .mv (.t 28), none, []⟩]))
    (.reg [] [
      ⟨(some 20), .mv (.t 6), none, []⟩,
      ⟨(some 21), .bin .plain .add (.t 20) (.k (.int .i64 1)), none, []⟩,
      ⟨(some 6), .mv (.t 21), none, []⟩])))

def ir13j0 : List Bool := [true, true, false, false, false, true, false, false, false, false, false, false, false, false, false, false, false, false, false, false, false, false, false, false, false, false, false, false, false, false, false, false, false, false, false, false, false, false, false, false, false, false, false, false, false, false, false, false, false, false, false, false, false, false, false, false, false, false, false, false, false, false, false, false, false, false, false, false, false, false, false, false, false, false, false, false, false, false, false, false, false, false, false, false, false, false, false, false, false, false, false, false, false, false, false, false, false, false, false, false, false]
def ir13j3 : List Bool := [true, true, false, false, false, true, false, true, false, false, false, false, false, false, false, false, false, false, false, false, false, false, false, false, false, false, false, false, false, false, false, false, false, false, false, false, false, false, false, false, false, false, false, false, false, false, false, false, false, false, false, false, false, false, false, false, false, false, false, false, false, false, false, false, false, false, false, false, false, false, false, false, false, false, false, false, false, false, false, false, false, false, false, false, false, false, false, false, false, false, false, false, false, false, false, false, false, false, false, false, false]
def ir13k1 : List Bool := [true, true, false, false, false, true, false, true, false, false, false, false, false, false, false, false, false, false, false, false, false, false, false, false, false, false, false, false, false, false, false, false, false, false, false, false, false, false, false, false, false, false, false, false, false, false, false, false, false, false, false, false, false, false, false, false, false, false, false, false, false, false, false, false, false, false, false, false, false, false, false, false, false, false, false, false, false, false, false, false, false, false, false, false, false, false, false, false, false, false, false, false, false, false, false, false, false, false, false, false, false]
def ir13b1 : IR :=
  (.seq
   (.seq
    (.reg [] [
      ⟨(some 29), .mv (.t 7), none, []⟩,
      ⟨(some 30), .mv (.t 1), none, []⟩,
      ⟨(some 31), .len false (.t 30), none, []⟩,
      ⟨(some 32), .bin .plain .lss (.t 29) (.t 31), none, []⟩,
      ⟨(some 33), .mv (.t 32), none, []⟩,
      ⟨(some 34), .mv (.t 7), (some (33, true)), []⟩,
      ⟨(some 35), .bin .plain .lss (.t 34) (.k (.int .i64 50)), (some (33, true)), []⟩,
      ⟨(some 36), .pick (.t 33) (.t 35) (.k (.bool false)), none, []⟩])
    (.cond (.t 36)
     .skip
     (.exit 2)))
   (.seq
    (.block 3 ir13j3
     (.seq
      (.seq
       (.reg [] [
         ⟨(some 39), .mv (.t 1), none, []⟩,
         ⟨(some 40), .mv (.t 7), none, []⟩,
         ⟨(some 41), .ia 1 (.t 39) (.t 40), none, []⟩,
         ⟨(some 42), .load false 1 (.t 41), none, []⟩,
         ⟨(some 43), .len false (.t 42), none, []⟩,
         ⟨(some 44), .bin .plain .gtr (.t 43) (.k (.int .i64 1000)), none, []⟩])
       (.cond (.t 44)
        (.seq
         (.reg [] [
           ⟨(some 4), .mv (.k (.bool true)), none, []⟩])
         .ret)
        .skip))
      (.reg [] [
        ⟨(some 45), .mv (.t 5), none, []⟩,
        ⟨(some 46), .mv (.t 1), none, []⟩,
        ⟨(some 47), .mv (.t 7), none, []⟩,
        ⟨(some 48), .ia 1 (.t 46) (.t 47), none, []⟩,
        ⟨(some 49), .load false 1 (.t 48), none, []⟩,
        ⟨(some 50), .qcall 20 [(.t 49)] [], none, []⟩,
        ⟨(some 51), .app 1 5 1 1 (.t 45) (.t 50), none, []⟩,
        ⟨(some 5), .mv (.t 51), none, []⟩])))
    (.reg [] [
      ⟨(some 37), .mv (.t 7), none, []⟩,
      ⟨(some 38), .bin .plain .add (.t 37) (.k (.int .i64 1)), none, []⟩,
      ⟨(some 7), .mv (.t 38), none, []⟩])))

def ir13j2 : List Bool := [true, true, false, false, false, true, false, false, false, false, false, false, false, false, false, false, false, false, false, false, false, false, false, false, false, false, false, false, false, false, false, false, false, false, false, false, false, false, false, false, false, false, false, false, false, false, false, false, false, false, false, false, false, false, false, false, false, false, false, false, false, false, false, false, false, false, false, false, false, false, false, false, false, false, false, false, false, false, false, false, false, false, false, false, false, false, false, false, false, false, false, false, false, false, false, false, false, false, false, false, false]
def ir13j5 : List Bool := [true, true, false, false, false, false, false, false, true, true, false, false, false, false, false, false, false, false, false, false, false, false, false, false, false, false, false, false, false, false, false, false, false, false, false, false, false, false, false, false, false, false, false, false, false, false, false, false, false, false, false, false, false, false, false, false, false, false, false, false, false, false, false, false, false, false, false, false, false, false, false, false, false, false, false, false, false, false, false, false, false, false, false, false, false, false, false, false, false, false, false, false, false, false, false, false, false, false, false, false, false]
def ir13k2 : List Bool := [true, true, false, false, false, false, false, false, true, true, false, false, false, false, false, false, false, false, false, false, false, false, false, false, false, false, false, false, false, false, false, false, false, false, false, false, false, false, false, false, false, false, false, false, false, false, false, false, false, false, false, false, false, false, false, false, false, false, false, false, false, false, false, false, false, false, false, false, false, false, false, false, false, false, false, false, false, false, false, false, false, false, false, false, false, false, false, false, false, false, false, false, false, false, false, false, false, false, false, false, false]
def ir13b2 : IR :=
  (.seq
   (.seq
    (.reg [] [
      ⟨(some 61), .mv (.t 9), none, []⟩,
      ⟨(some 62), .mv (.t 0), none, []⟩,
      ⟨(some 63), .len false (.t 62), none, []⟩,
      ⟨(some 64), .bin .plain .lss (.t 61) (.t 63), none, []⟩,
      ⟨(some 65), .mv (.t 64), none, []⟩,
      ⟨(some 66), .mv (.t 9), (some (65, true)), []⟩,
      ⟨(some 67), .bin .plain .lss (.t 66) (.k (.int .i64 50)), (some (65, true)), []⟩,
      ⟨(some 68), .pick (.t 65) (.t 67) (.k (.bool false)), none, []⟩])
    (.cond (.t 68)
     .skip
     (.exit 4)))
   (.seq
    (.block 5 ir13j5
     (.seq
      (.reg [(1, 4), (1, 5)] [
        ⟨(some 71), .mv (.t 8), none, []⟩,
        ⟨(some 72), .call 25 [(.t 71)] [], none, []⟩,
        ⟨(some 73), .mv (.t 0), none, []⟩,
        ⟨(some 74), .mv (.t 9), none, []⟩,
        ⟨(some 75), .ia 1 (.t 73) (.t 74), none, []⟩,
        ⟨(some 76), .load false 1 (.t 75), none, []⟩,
        ⟨(some 77), .bin .plain .neq (.t 72) (.t 76), none, []⟩])
      (.cond (.t 77)
       (.seq
        (.reg [] [
          ⟨(some 4), .mv (.k (.bool false)), none, []⟩])
        .ret)
       .skip)))
    (.reg [] [
      ⟨(some 69), .mv (.t 9), none, []⟩,
      ⟨(some 70), .bin .plain .add (.t 69) (.k (.int .i64 1)), none, []⟩,
      ⟨(some 9), .mv (.t 70), none, []⟩])))

def ir13j4 : List Bool := [false, true, false, false, false, false, false, false, true, false, false, false, false, false, false, false, false, false, false, false, false, false, false, false, false, false, false, false, false, false, false, false, false, false, false, false, false, false, false, false, false, false, false, false, false, false, false, false, false, false, false, false, false, false, false, false, false, false, false, false, false, false, false, false, false, false, false, false, false, false, false, false, false, false, false, false, false, false, false, false, false, false, false, false, false, false, false, false, false, false, false, false, false, false, false, false, false, false, false, false, false]
def ir13j7 : List Bool := [false, true, false, false, false, false, false, false, true, false, true, false, false, false, false, false, false, false, false, false, false, false, false, false, false, false, false, false, false, false, false, false, false, false, false, false, false, false, false, false, false, false, false, false, false, false, false, false, false, false, false, false, false, false, false, false, false, false, false, false, false, false, false, false, false, false, false, false, false, false, false, false, false, false, false, false, false, false, false, false, false, false, false, false, false, false, false, false, false, false, false, false, false, false, false, false, false, false, false, false, false]
def ir13k3 : List Bool := [false, true, false, false, false, false, false, false, true, false, true, false, false, false, false, false, false, false, false, false, false, false, false, false, false, false, false, false, false, false, false, false, false, false, false, false, false, false, false, false, false, false, false, false, false, false, false, false, false, false, false, false, false, false, false, false, false, false, false, false, false, false, false, false, false, false, false, false, false, false, false, false, false, false, false, false, false, false, false, false, false, false, false, false, false, false, false, false, false, false, false, false, false, false, false, false, false, false, false, false, false]
def ir13b3 : IR :=
  (.seq
   (.seq
    (.reg [] [
      ⟨(some 78), .mv (.t 10), none, []⟩,
      ⟨(some 79), .mv (.t 1), none, []⟩,
      ⟨(some 80), .len false (.t 79), none, []⟩,
      ⟨(some 81), .bin .plain .lss (.t 78) (.t 80), none, []⟩,
      ⟨(some 82), .mv (.t 81), none, []⟩,
      ⟨(some 83), .mv (.t 10), (some (82, true)), []⟩,
      ⟨(some 84), .bin .plain .lss (.t 83) (.k (.int .i64 50)), (some (82, true)), []⟩,
      ⟨(some 85), .pick (.t 82) (.t 84) (.k (.bool false)), none, []⟩])
    (.cond (.t 85)
     .skip
     (.exit 6)))
   (.seq
    (.block 7 ir13j7
     (.seq
      (.reg [(1, 5), (1, 6), (1, 7)] [
        ⟨(some 88), .mv (.t 8), none, []⟩,
        ⟨(some 89), .call 35 [(.t 88), (.k (.int .i64 1000))] [], none, []⟩,
        ⟨(some 90), .b2s (.t 89), none, []⟩,
        ⟨(some 91), .mv (.t 1), none, []⟩,
        ⟨(some 92), .mv (.t 10), none, []⟩,
        ⟨(some 93), .ia 1 (.t 91) (.t 92), none, []⟩,
        ⟨(some 94), .load false 1 (.t 93), none, []⟩,
        ⟨(some 95), .b2s (.t 94), none, []⟩,
        ⟨(some 96), .bin .plain .neq (.t 90) (.t 95), none, []⟩])
      (.cond (.t 96)
       (.seq
        (.reg [] [
          ⟨(some 4), .mv (.k (.bool false)), none, []⟩])
        .ret)
       .skip)))
    (.reg [] [
      ⟨(some 86), .mv (.t 10), none, []⟩,
      ⟨(some 87), .bin .plain .add (.t 86) (.k (.int .i64 1)), none, []⟩,
      ⟨(some 10), .mv (.t 87), none, []⟩])))

def ir13j6 : List Bool := [false, false, false, false, false, false, false, false, true, false, false, false, false, false, false, false, false, false, false, false, false, false, false, false, false, false, false, false, false, false, false, false, false, false, false, false, false, false, false, false, false, false, false, false, false, false, false, false, false, false, false, false, false, false, false, false, false, false, false, false, false, false, false, false, false, false, false, false, false, false, false, false, false, false, false, false, false, false, false, false, false, false, false, false, false, false, false, false, false, false, false, false, false, false, false, false, false, false, false, false, false]
/-- heartwood/heartwoodlaw02.CoderBack -/
def ir13 : Ev.Fn := ⟨2, 101, 3,
  (.seq
   (.reg [] [
     ⟨(some 4), .mv (.k (.bool false)), none, []⟩])
   (.seq
    (.reg [] [
      ⟨(some 5), .mv (.k (.slice none 0 0)), none, []⟩])
    (.seq
     (.seq
      (.reg [] [
        ⟨(some 6), .mv (.k (.int .i64 0)), none, []⟩])
      (.block 0 ir13j0
       (.loop ir13k0 ir13b0)))
     (.seq
      (.seq
       (.reg [] [
         ⟨(some 7), .mv (.k (.int .i64 0)), none, []⟩])
       (.block 2 ir13j2
        (.loop ir13k1 ir13b1)))
      (.seq
       (.reg [] [
         ⟨(some 52), .mv (.t 5), none, []⟩,
         ⟨(some 53), .qcall 24 [(.t 52)] [2], none, [52]⟩,
         ⟨(some 8), .mv (.t 53), none, []⟩])
       (.seq
        (.seq
         (.reg [] [
           ⟨(some 54), .mv (.t 8), none, []⟩,
           ⟨(some 55), .bin .ptr .eql (.t 54) (.k (.pointer none)), none, []⟩,
           ⟨(some 56), .mv (.t 55), none, []⟩,
           ⟨(some 57), .qcall 18 [(.k (.int .u64 248))] [], (some (56, false)), []⟩,
           ⟨(some 58), .b2s (.t 57), (some (56, false)), []⟩,
           ⟨(some 59), .bin .plain .neq (.t 58) (.k (.string ⟨#[248, 248]⟩)), (some (56, false)), []⟩,
           ⟨(some 60), .pick (.t 56) (.k (.bool true)) (.t 59), none, []⟩])
         (.cond (.t 60)
          (.seq
           (.reg [] [
             ⟨(some 4), .mv (.k (.bool false)), none, []⟩])
           .ret)
          .skip))
        (.seq
         (.seq
          (.reg [] [
            ⟨(some 9), .mv (.k (.int .i64 0)), none, []⟩])
          (.block 4 ir13j4
           (.loop ir13k2 ir13b2)))
         (.seq
          (.seq
           (.reg [] [
             ⟨(some 10), .mv (.k (.int .i64 0)), none, []⟩])
           (.block 6 ir13j6
            (.loop ir13k3 ir13b3)))
          (.seq
           (.reg [] [
             ⟨(some 97), .mv (.t 8), none, []⟩,
             ⟨(some 98), .call 41 [(.t 97)] [], none, []⟩,
             ⟨(some 11), .mv (.t 98), none, []⟩])
           (.seq
            (.reg [] [
              ⟨(some 99), .mv (.t 11), none, []⟩,
              ⟨(some 100), .bin (.iface 31 true) .eql (.t 99) (.k .nilIface), none, []⟩,
              ⟨(some 4), .mv (.t 100), none, []⟩])
            .ret)))))))))),
  [.tmp 4], [], false⟩


theorem ok3 : trFn Try.prog Try.f3 ir3 = some ir3 := by kernel_rfl
theorem ok14 : trFn Try.prog Try.f14 ir14 = some ir14 := by kernel_rfl
theorem ok44 : trFn Try.prog Try.f44 ir44 = some ir44 := by kernel_rfl
theorem ok15 : trFn Try.prog Try.f15 ir15 = some ir15 := by kernel_rfl
theorem ok45 : trFn Try.prog Try.f45 ir45 = some ir45 := by kernel_rfl
theorem ok4 : trFn Try.prog Try.f4 ir4 = some ir4 := by kernel_rfl
theorem ok16 : trFn Try.prog Try.f16 ir16 = some ir16 := by kernel_rfl
theorem ok17 : trFn Try.prog Try.f17 ir17 = some ir17 := by kernel_rfl
theorem ok5 : trFn Try.prog Try.f5 ir5 = some ir5 := by kernel_rfl
theorem ok18 : trFn Try.prog Try.f18 ir18 = some ir18 := by kernel_rfl
theorem ok19 : trFn Try.prog Try.f19 ir19 = some ir19 := by kernel_rfl
theorem ok6 : trFn Try.prog Try.f6 ir6 = some ir6 := by kernel_rfl
theorem ok20 : trFn Try.prog Try.f20 ir20 = some ir20 := by kernel_rfl
theorem ok21 : trFn Try.prog Try.f21 ir21 = some ir21 := by kernel_rfl
theorem ok7 : trFn Try.prog Try.f7 ir7 = some ir7 := by kernel_rfl
theorem ok22 : trFn Try.prog Try.f22 ir22 = some ir22 := by kernel_rfl
theorem ok23 : trFn Try.prog Try.f23 ir23 = some ir23 := by kernel_rfl
theorem ok8 : trFn Try.prog Try.f8 ir8 = some ir8 := by kernel_rfl
theorem ok24 : trFn Try.prog Try.f24 ir24 = some ir24 := by kernel_rfl
theorem ok46 : trFn Try.prog Try.f46 ir46 = some ir46 := by kernel_rfl
theorem ok25 : trFn Try.prog Try.f25 ir25 = some ir25 := by kernel_rfl
theorem ok38 : trFn Try.prog Try.f38 ir38 = some ir38 := by kernel_rfl
theorem ok47 : trFn Try.prog Try.f47 ir47 = some ir47 := by kernel_rfl
theorem ok9 : trFn Try.prog Try.f9 ir9 = some ir9 := by kernel_rfl
theorem ok26 : trFn Try.prog Try.f26 ir26 = some ir26 := by kernel_rfl
theorem ok29 : trFn Try.prog Try.f29 ir29 = some ir29 := by kernel_rfl
theorem ok48 : trFn Try.prog Try.f48 ir48 = some ir48 := by kernel_rfl
theorem ok49 : trFn Try.prog Try.f49 ir49 = some ir49 := by kernel_rfl
theorem ok50 : trFn Try.prog Try.f50 ir50 = some ir50 := by kernel_rfl
theorem ok34 : trFn Try.prog Try.f34 ir34 = some ir34 := by kernel_rfl
theorem ok27 : trFn Try.prog Try.f27 ir27 = some ir27 := by kernel_rfl
theorem ok28 : trFn Try.prog Try.f28 ir28 = some ir28 := by kernel_rfl
theorem ok30 : trFn Try.prog Try.f30 ir30 = some ir30 := by kernel_rfl
theorem ok31 : trFn Try.prog Try.f31 ir31 = some ir31 := by kernel_rfl
theorem ok32 : trFn Try.prog Try.f32 ir32 = some ir32 := by kernel_rfl
theorem ok33 : trFn Try.prog Try.f33 ir33 = some ir33 := by kernel_rfl
theorem ok10 : trFn Try.prog Try.f10 ir10 = some ir10 := by kernel_rfl
theorem ok11 : trFn Try.prog Try.f11 ir11 = some ir11 := by kernel_rfl
theorem ok35 : trFn Try.prog Try.f35 ir35 = some ir35 := by kernel_rfl
theorem ok12 : trFn Try.prog Try.f12 ir12 = some ir12 := by kernel_rfl
theorem ok36 : trFn Try.prog Try.f36 ir36 = some ir36 := by kernel_rfl
theorem ok37 : trFn Try.prog Try.f37 ir37 = some ir37 := by kernel_rfl
theorem ok39 : trFn Try.prog Try.f39 ir39 = some ir39 := by kernel_rfl
theorem ok40 : trFn Try.prog Try.f40 ir40 = some ir40 := by kernel_rfl
theorem ok41 : trFn Try.prog Try.f41 ir41 = some ir41 := by kernel_rfl
theorem ok42 : trFn Try.prog Try.f42 ir42 = some ir42 := by kernel_rfl
theorem ok43 : trFn Try.prog Try.f43 ir43 = some ir43 := by kernel_rfl
theorem ok13 : trFn Try.prog Try.f13 ir13 = some ir13 := by kernel_rfl
def tab (f : Nat) : Option Ev.Fn := match f with
  | 3 => some ir3
  | 14 => some ir14
  | 44 => some ir44
  | 15 => some ir15
  | 45 => some ir45
  | 4 => some ir4
  | 16 => some ir16
  | 17 => some ir17
  | 5 => some ir5
  | 18 => some ir18
  | 19 => some ir19
  | 6 => some ir6
  | 20 => some ir20
  | 21 => some ir21
  | 7 => some ir7
  | 22 => some ir22
  | 23 => some ir23
  | 8 => some ir8
  | 24 => some ir24
  | 46 => some ir46
  | 25 => some ir25
  | 38 => some ir38
  | 47 => some ir47
  | 9 => some ir9
  | 26 => some ir26
  | 29 => some ir29
  | 48 => some ir48
  | 49 => some ir49
  | 50 => some ir50
  | 34 => some ir34
  | 27 => some ir27
  | 28 => some ir28
  | 30 => some ir30
  | 31 => some ir31
  | 32 => some ir32
  | 33 => some ir33
  | 10 => some ir10
  | 11 => some ir11
  | 35 => some ir35
  | 12 => some ir12
  | 36 => some ir36
  | 37 => some ir37
  | 39 => some ir39
  | 40 => some ir40
  | 41 => some ir41
  | 42 => some ir42
  | 43 => some ir43
  | 13 => some ir13
  | _ => none
theorem tabOk : TabOk Try.prog tab := fun f fn h => by
  unfold tab at h
  split at h
  · cases h; exact ⟨Try.f3, ir3, Try.func3, ok3⟩
  · cases h; exact ⟨Try.f14, ir14, Try.func14, ok14⟩
  · cases h; exact ⟨Try.f44, ir44, Try.func44, ok44⟩
  · cases h; exact ⟨Try.f15, ir15, Try.func15, ok15⟩
  · cases h; exact ⟨Try.f45, ir45, Try.func45, ok45⟩
  · cases h; exact ⟨Try.f4, ir4, Try.func4, ok4⟩
  · cases h; exact ⟨Try.f16, ir16, Try.func16, ok16⟩
  · cases h; exact ⟨Try.f17, ir17, Try.func17, ok17⟩
  · cases h; exact ⟨Try.f5, ir5, Try.func5, ok5⟩
  · cases h; exact ⟨Try.f18, ir18, Try.func18, ok18⟩
  · cases h; exact ⟨Try.f19, ir19, Try.func19, ok19⟩
  · cases h; exact ⟨Try.f6, ir6, Try.func6, ok6⟩
  · cases h; exact ⟨Try.f20, ir20, Try.func20, ok20⟩
  · cases h; exact ⟨Try.f21, ir21, Try.func21, ok21⟩
  · cases h; exact ⟨Try.f7, ir7, Try.func7, ok7⟩
  · cases h; exact ⟨Try.f22, ir22, Try.func22, ok22⟩
  · cases h; exact ⟨Try.f23, ir23, Try.func23, ok23⟩
  · cases h; exact ⟨Try.f8, ir8, Try.func8, ok8⟩
  · cases h; exact ⟨Try.f24, ir24, Try.func24, ok24⟩
  · cases h; exact ⟨Try.f46, ir46, Try.func46, ok46⟩
  · cases h; exact ⟨Try.f25, ir25, Try.func25, ok25⟩
  · cases h; exact ⟨Try.f38, ir38, Try.func38, ok38⟩
  · cases h; exact ⟨Try.f47, ir47, Try.func47, ok47⟩
  · cases h; exact ⟨Try.f9, ir9, Try.func9, ok9⟩
  · cases h; exact ⟨Try.f26, ir26, Try.func26, ok26⟩
  · cases h; exact ⟨Try.f29, ir29, Try.func29, ok29⟩
  · cases h; exact ⟨Try.f48, ir48, Try.func48, ok48⟩
  · cases h; exact ⟨Try.f49, ir49, Try.func49, ok49⟩
  · cases h; exact ⟨Try.f50, ir50, Try.func50, ok50⟩
  · cases h; exact ⟨Try.f34, ir34, Try.func34, ok34⟩
  · cases h; exact ⟨Try.f27, ir27, Try.func27, ok27⟩
  · cases h; exact ⟨Try.f28, ir28, Try.func28, ok28⟩
  · cases h; exact ⟨Try.f30, ir30, Try.func30, ok30⟩
  · cases h; exact ⟨Try.f31, ir31, Try.func31, ok31⟩
  · cases h; exact ⟨Try.f32, ir32, Try.func32, ok32⟩
  · cases h; exact ⟨Try.f33, ir33, Try.func33, ok33⟩
  · cases h; exact ⟨Try.f10, ir10, Try.func10, ok10⟩
  · cases h; exact ⟨Try.f11, ir11, Try.func11, ok11⟩
  · cases h; exact ⟨Try.f35, ir35, Try.func35, ok35⟩
  · cases h; exact ⟨Try.f12, ir12, Try.func12, ok12⟩
  · cases h; exact ⟨Try.f36, ir36, Try.func36, ok36⟩
  · cases h; exact ⟨Try.f37, ir37, Try.func37, ok37⟩
  · cases h; exact ⟨Try.f39, ir39, Try.func39, ok39⟩
  · cases h; exact ⟨Try.f40, ir40, Try.func40, ok40⟩
  · cases h; exact ⟨Try.f41, ir41, Try.func41, ok41⟩
  · cases h; exact ⟨Try.f42, ir42, Try.func42, ok42⟩
  · cases h; exact ⟨Try.f43, ir43, Try.func43, ok43⟩
  · cases h; exact ⟨Try.f13, ir13, Try.func13, ok13⟩
  · cases h
theorem tab3 : tab 3 = some ir3 := rfl
theorem tab14 : tab 14 = some ir14 := rfl
theorem tab44 : tab 44 = some ir44 := rfl
theorem tab15 : tab 15 = some ir15 := rfl
theorem tab45 : tab 45 = some ir45 := rfl
theorem tab4 : tab 4 = some ir4 := rfl
theorem tab16 : tab 16 = some ir16 := rfl
theorem tab17 : tab 17 = some ir17 := rfl
theorem tab5 : tab 5 = some ir5 := rfl
theorem tab18 : tab 18 = some ir18 := rfl
theorem tab19 : tab 19 = some ir19 := rfl
theorem tab6 : tab 6 = some ir6 := rfl
theorem tab20 : tab 20 = some ir20 := rfl
theorem tab21 : tab 21 = some ir21 := rfl
theorem tab7 : tab 7 = some ir7 := rfl
theorem tab22 : tab 22 = some ir22 := rfl
theorem tab23 : tab 23 = some ir23 := rfl
theorem tab8 : tab 8 = some ir8 := rfl
theorem tab24 : tab 24 = some ir24 := rfl
theorem tab46 : tab 46 = some ir46 := rfl
theorem tab25 : tab 25 = some ir25 := rfl
theorem tab38 : tab 38 = some ir38 := rfl
theorem tab47 : tab 47 = some ir47 := rfl
theorem tab9 : tab 9 = some ir9 := rfl
theorem tab26 : tab 26 = some ir26 := rfl
theorem tab29 : tab 29 = some ir29 := rfl
theorem tab48 : tab 48 = some ir48 := rfl
theorem tab49 : tab 49 = some ir49 := rfl
theorem tab50 : tab 50 = some ir50 := rfl
theorem tab34 : tab 34 = some ir34 := rfl
theorem tab27 : tab 27 = some ir27 := rfl
theorem tab28 : tab 28 = some ir28 := rfl
theorem tab30 : tab 30 = some ir30 := rfl
theorem tab31 : tab 31 = some ir31 := rfl
theorem tab32 : tab 32 = some ir32 := rfl
theorem tab33 : tab 33 = some ir33 := rfl
theorem tab10 : tab 10 = some ir10 := rfl
theorem tab11 : tab 11 = some ir11 := rfl
theorem tab35 : tab 35 = some ir35 := rfl
theorem tab12 : tab 12 = some ir12 := rfl
theorem tab36 : tab 36 = some ir36 := rfl
theorem tab37 : tab 37 = some ir37 := rfl
theorem tab39 : tab 39 = some ir39 := rfl
theorem tab40 : tab 40 = some ir40 := rfl
theorem tab41 : tab 41 = some ir41 := rfl
theorem tab42 : tab 42 = some ir42 := rfl
theorem tab43 : tab 43 = some ir43 := rfl
theorem tab13 : tab 13 = some ir13 := rfl
def G0 : Cf := ⟨fun _ => [], true⟩
theorem G0_gf : G0.gf = true := rfl
end Go.Proofs.Ytfbipgidlecmkaa
