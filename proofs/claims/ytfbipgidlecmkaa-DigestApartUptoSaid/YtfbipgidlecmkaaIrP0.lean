/- The IR of the seat's functions, printed by a program of this session. -/
import Derived.Test.YtfbipgidlecmkaaEvTool
set_option linter.unusedVariables false
namespace Go.Proofs.Ytfbipgidlecmkaa
open Go.Ev

abbrev ty_uint8 : Nat := 5
abbrev ty_string : Nat := 9
abbrev ty_uint32 : Nat := 22
abbrev ty_api_Code : Nat := 31
abbrev n_law01_ShaRounds : Nat := 3
abbrev n_law01_ShaTails : Nat := 4
abbrev n_law02_CoderNumbers : Nat := 5
abbrev n_law02_CoderBytes : Nat := 6
abbrev n_law01_ShaWords : Nat := 7
abbrev n_law02_CoderApart : Nat := 8
abbrev n_law03_DigestPreimages : Nat := 9
abbrev n_law03_DigestApart : Nat := 10
abbrev n_law02_CoderReads : Nat := 12
abbrev n_law02_CoderBack : Nat := 13
abbrev n_sha_Round : Nat := 14
abbrev n_ref01_Round : Nat := 15
abbrev n_sha_Tail : Nat := 16
abbrev n_ref01_Tail : Nat := 17
abbrev n_coder_Number : Nat := 18
abbrev n_ref02_Number : Nat := 19
abbrev n_coder_Bytes : Nat := 20
abbrev n_ref02_Bytes : Nat := 21
abbrev n_sha_Words : Nat := 22
abbrev n_ref01_Words : Nat := 23
abbrev n_coder_NewReader : Nat := 24
abbrev n_coder_Reader_Number : Nat := 25
abbrev n_law03_up : Nat := 26
abbrev n_digest_Value : Nat := 27
abbrev n_ref03_Value : Nat := 28
abbrev n_digest_Pair : Nat := 29
abbrev n_digest_Node : Nat := 30
abbrev n_law03_may : Nat := 31
abbrev n_ref03_Pair : Nat := 32
abbrev n_ref03_Node : Nat := 33
abbrev n_digest_None : Nat := 34
abbrev n_coder_Reader_Bytes : Nat := 35
abbrev n_law02_pick : Nat := 36
abbrev n_ref02_Reader_Number : Nat := 37
abbrev n_coder_Reader_Byte : Nat := 38
abbrev n_ref02_Reader_Byte : Nat := 39
abbrev n_ref02_Reader_Bytes : Nat := 40
abbrev n_coder_Reader_End : Nat := 41
abbrev n_law00_Code : Nat := 42
abbrev n_ref02_Reader_End : Nat := 43
abbrev n_math_bits_RotateLeft32 : Nat := 44
abbrev n_ref01_turn : Nat := 45
abbrev n_slices_Clone_sl_byte_byte : Nat := 46
abbrev n_coder_Reader_take : Nat := 47
abbrev n_digest_width : Nat := 48
abbrev n_slices_Concat_sl_byte_byte : Nat := 49
abbrev n_slices_Grow_sl_byte_byte : Nat := 50
def i_law01_ShaRounds_r : List Bool := [false, false, false, false, false, false, true, false, false, false, false, false, false, false, false, false, false, false, false, false, false, false]
/-- heartwood/heartwoodlaw01.ShaRounds -/
def i_law01_ShaRounds : Ev.Fn := ⟨3, 22, 1,
  (.seq
   (.reg [] [
     ⟨(some 3), .box 0 8 (.t 0), none, []⟩,
     ⟨(some 6), .mv (.k (.bool false)), none, []⟩])
   (.seq
    (.reg [] [
      ⟨(some 7), .build [(.int .u32 0), (.int .u32 0), (.int .u32 0), (.int .u32 0), (.int .u32 0), (.int .u32 0), (.int .u32 0), (.int .u32 0)] [], none, []⟩,
      ⟨(some 8), .qcall n_sha_Round [(.t 7), (.k (.int .u32 1)), (.k (.int .u32 0))] [], none, []⟩,
      ⟨(some 9), .ix 8 1 false (.t 8) (.k (.int .i64 0)), none, []⟩,
      ⟨(some 10), .bin .plain .eql (.t 9) (.k (.int .u32 1)), none, []⟩,
      ⟨(some 11), .mv (.t 10), none, []⟩,
      ⟨(some 12), .load true 8 (.t 3), (some (11, true)), []⟩,
      ⟨(some 13), .mv (.t 1), (some (11, true)), []⟩,
      ⟨(some 14), .mv (.t 2), (some (11, true)), []⟩,
      ⟨(some 15), .qcall n_sha_Round [(.t 12), (.t 13), (.t 14)] [], (some (11, true)), []⟩,
      ⟨(some 16), .load true 8 (.t 3), (some (11, true)), []⟩,
      ⟨(some 17), .mv (.t 1), (some (11, true)), []⟩,
      ⟨(some 18), .mv (.t 2), (some (11, true)), []⟩,
      ⟨(some 19), .qcall n_ref01_Round [(.t 16), (.t 17), (.t 18)] [], (some (11, true)), []⟩,
      ⟨(some 20), .bin (.arr 8) .eql (.t 15) (.t 19), (some (11, true)), []⟩,
      ⟨(some 21), .pick (.t 11) (.t 20) (.k (.bool false)), none, []⟩,
      ⟨(some 6), .mv (.t 21), none, []⟩])
    (.ret i_law01_ShaRounds_r))),
  [.tmp 6], [], false, []⟩

def i_sha_Round_r : List Bool := [false, false, false, false, false, false, true, false, false, false, false, false, false, false, false, false, false, false, false, false, false, false, false, false, false, false, false, false, false, false, false, false, false, false, false, false, false, false, false, false, false, false, false, false, false, false, false, false, false, false, false, false, false, false, false, false, false, false, false, false, false, false, false, false, false, false, false, false, false, false, false, false, false, false, false, false, false, false, false, false, false, false, false, false, false]
/-- heartwood/sha.Round -/
def i_sha_Round : Ev.Fn := ⟨3, 85, 2,
  (.seq
   (.reg [] [
     ⟨(some 3), .box 0 8 (.t 0), none, []⟩,
     ⟨(some 6), .new 1 [(.int .u32 0), (.int .u32 0), (.int .u32 0), (.int .u32 0), (.int .u32 0), (.int .u32 0), (.int .u32 0), (.int .u32 0)], none, []⟩])
   (.seq
    (.reg [] [
      ⟨(some 15), .iap 8 1 (.t 3) (.k (.int .i64 0)), none, []⟩,
      ⟨(some 16), .load false 1 (.t 15), none, []⟩,
      ⟨(some 17), .iap 8 1 (.t 3) (.k (.int .i64 1)), none, []⟩,
      ⟨(some 18), .load false 1 (.t 17), none, []⟩,
      ⟨(some 19), .iap 8 1 (.t 3) (.k (.int .i64 2)), none, []⟩,
      ⟨(some 20), .load false 1 (.t 19), none, []⟩,
      ⟨(some 21), .iap 8 1 (.t 3) (.k (.int .i64 4)), none, []⟩,
      ⟨(some 22), .load false 1 (.t 21), none, []⟩,
      ⟨(some 23), .iap 8 1 (.t 3) (.k (.int .i64 5)), none, []⟩,
      ⟨(some 24), .load false 1 (.t 23), none, []⟩,
      ⟨(some 25), .iap 8 1 (.t 3) (.k (.int .i64 6)), none, []⟩,
      ⟨(some 26), .load false 1 (.t 25), none, []⟩,
      ⟨(some 7), .mv (.t 16), none, []⟩,
      ⟨(some 8), .mv (.t 18), none, []⟩,
      ⟨(some 9), .mv (.t 20), none, []⟩,
      ⟨(some 10), .mv (.t 22), none, []⟩,
      ⟨(some 11), .mv (.t 24), none, []⟩,
      ⟨(some 12), .mv (.t 26), none, []⟩])
    (.seq
     (.reg [] [
       ⟨(some 27), .iap 8 1 (.t 3) (.k (.int .i64 7)), none, []⟩,
       ⟨(some 28), .load false 1 (.t 27), none, []⟩,
       ⟨(some 29), .mv (.t 10), none, []⟩,
       ⟨(some 30), .qcall n_math_bits_RotateLeft32 [(.t 29), (.k (.int .i64 (-6)))] [], none, []⟩,
       ⟨(some 31), .mv (.t 10), none, []⟩,
       ⟨(some 32), .qcall n_math_bits_RotateLeft32 [(.t 31), (.k (.int .i64 (-11)))] [], none, []⟩,
       ⟨(some 33), .bin .plain .xor (.t 30) (.t 32), none, []⟩,
       ⟨(some 34), .mv (.t 10), none, []⟩,
       ⟨(some 35), .qcall n_math_bits_RotateLeft32 [(.t 34), (.k (.int .i64 (-25)))] [], none, []⟩,
       ⟨(some 36), .bin .plain .xor (.t 33) (.t 35), none, []⟩,
       ⟨(some 37), .bin .plain .add (.t 28) (.t 36), none, []⟩,
       ⟨(some 38), .mv (.t 10), none, []⟩,
       ⟨(some 39), .mv (.t 11), none, []⟩,
       ⟨(some 40), .bin .plain .and (.t 38) (.t 39), none, []⟩,
       ⟨(some 41), .mv (.t 10), none, []⟩,
       ⟨(some 42), .un .xor (.t 41), none, []⟩,
       ⟨(some 43), .mv (.t 12), none, []⟩,
       ⟨(some 44), .bin .plain .and (.t 42) (.t 43), none, []⟩,
       ⟨(some 45), .bin .plain .xor (.t 40) (.t 44), none, []⟩,
       ⟨(some 46), .bin .plain .add (.t 37) (.t 45), none, []⟩,
       ⟨(some 47), .mv (.t 1), none, []⟩,
       ⟨(some 48), .bin .plain .add (.t 46) (.t 47), none, []⟩,
       ⟨(some 49), .mv (.t 2), none, []⟩,
       ⟨(some 50), .bin .plain .add (.t 48) (.t 49), none, []⟩,
       ⟨(some 13), .mv (.t 50), none, []⟩])
     (.seq
      (.reg [] [
        ⟨(some 51), .mv (.t 7), none, []⟩,
        ⟨(some 52), .qcall n_math_bits_RotateLeft32 [(.t 51), (.k (.int .i64 (-2)))] [], none, []⟩,
        ⟨(some 53), .mv (.t 7), none, []⟩,
        ⟨(some 54), .qcall n_math_bits_RotateLeft32 [(.t 53), (.k (.int .i64 (-13)))] [], none, []⟩,
        ⟨(some 55), .bin .plain .xor (.t 52) (.t 54), none, []⟩,
        ⟨(some 56), .mv (.t 7), none, []⟩,
        ⟨(some 57), .qcall n_math_bits_RotateLeft32 [(.t 56), (.k (.int .i64 (-22)))] [], none, []⟩,
        ⟨(some 58), .bin .plain .xor (.t 55) (.t 57), none, []⟩,
        ⟨(some 59), .mv (.t 7), none, []⟩,
        ⟨(some 60), .mv (.t 8), none, []⟩,
        ⟨(some 61), .bin .plain .and (.t 59) (.t 60), none, []⟩,
        ⟨(some 62), .mv (.t 7), none, []⟩,
        ⟨(some 63), .mv (.t 9), none, []⟩,
        ⟨(some 64), .bin .plain .and (.t 62) (.t 63), none, []⟩,
        ⟨(some 65), .bin .plain .xor (.t 61) (.t 64), none, []⟩,
        ⟨(some 66), .mv (.t 8), none, []⟩,
        ⟨(some 67), .mv (.t 9), none, []⟩,
        ⟨(some 68), .bin .plain .and (.t 66) (.t 67), none, []⟩,
        ⟨(some 69), .bin .plain .xor (.t 65) (.t 68), none, []⟩,
        ⟨(some 70), .bin .plain .add (.t 58) (.t 69), none, []⟩,
        ⟨(some 14), .mv (.t 70), none, []⟩])
      (.seq
       (.reg [] [
         ⟨(some 71), .mv (.t 13), none, []⟩,
         ⟨(some 72), .mv (.t 14), none, []⟩,
         ⟨(some 73), .bin .plain .add (.t 71) (.t 72), none, []⟩,
         ⟨(some 74), .mv (.t 7), none, []⟩,
         ⟨(some 75), .mv (.t 8), none, []⟩,
         ⟨(some 76), .mv (.t 9), none, []⟩,
         ⟨(some 77), .iap 8 1 (.t 3) (.k (.int .i64 3)), none, []⟩,
         ⟨(some 78), .load false 1 (.t 77), none, []⟩,
         ⟨(some 79), .mv (.t 13), none, []⟩,
         ⟨(some 80), .bin .plain .add (.t 78) (.t 79), none, []⟩,
         ⟨(some 81), .mv (.t 10), none, []⟩,
         ⟨(some 82), .mv (.t 11), none, []⟩,
         ⟨(some 83), .mv (.t 12), none, []⟩,
         ⟨(some 84), .build [(.int .u32 0), (.int .u32 0), (.int .u32 0), (.int .u32 0), (.int .u32 0), (.int .u32 0), (.int .u32 0), (.int .u32 0)] [(0, 1, (.t 73)), (1, 1, (.t 74)), (2, 1, (.t 75)), (3, 1, (.t 76)), (4, 1, (.t 80)), (5, 1, (.t 81)), (6, 1, (.t 82)), (7, 1, (.t 83))], none, []⟩,
         ⟨none, .store 8 (.t 6) (.t 84), none, []⟩])
       (.ret i_sha_Round_r)))))),
  [.cell 6 true 8], [], false, []⟩

def i_math_bits_RotateLeft32_r : List Bool := [false, false, false, false, true, false, false, false, false, false, false, false, false, false, false, false, false]
/-- math/bits.RotateLeft32 -/
def i_math_bits_RotateLeft32 : Ev.Fn := ⟨2, 17, 0,
  (.seq
   (.reg [] [
     ⟨(some 4), .mv (.k (.int .u32 0)), none, []⟩])
   (.seq
    (.reg [] [
      ⟨(some 6), .mv (.t 1), none, []⟩,
      ⟨(some 7), .conv .u64 (.t 6), none, []⟩,
      ⟨(some 8), .bin .plain .and (.t 7) (.k (.int .u64 31)), none, []⟩,
      ⟨(some 5), .mv (.t 8), none, []⟩])
    (.seq
     (.reg [] [
       ⟨(some 9), .mv (.t 0), none, []⟩,
       ⟨(some 10), .mv (.t 5), none, []⟩,
       ⟨(some 11), .bin .plain .shl (.t 9) (.t 10), none, []⟩,
       ⟨(some 12), .mv (.t 0), none, []⟩,
       ⟨(some 13), .mv (.t 5), none, []⟩,
       ⟨(some 14), .bin .plain .sub (.k (.int .u64 32)) (.t 13), none, []⟩,
       ⟨(some 15), .bin .plain .shr (.t 12) (.t 14), none, []⟩,
       ⟨(some 16), .bin .plain .or (.t 11) (.t 15), none, []⟩,
       ⟨(some 4), .mv (.t 16), none, []⟩])
     (.ret i_math_bits_RotateLeft32_r)))),
  [.tmp 4], [], false, []⟩

def i_ref01_Round_r : List Bool := [false, false, false, false, false, false, true, false, false, false, false, false, false, false, false, false, false, false, false, false, false, false, false, false, false, false, false, false, false, false, false, false, false, false, false, false, false, false, false, false, false, false, false, false, false, false, false, false, false, false, false, false, false, false, false, false, false, false, false, false, false, false, false, false, false, false, false, false, false, false, false, false, false, false, false, false, false, false, false, false, false, false, false]
/-- heartwood/heartwoodref01.Round -/
def i_ref01_Round : Ev.Fn := ⟨3, 83, 2,
  (.seq
   (.reg [] [
     ⟨(some 3), .box 0 8 (.t 0), none, []⟩,
     ⟨(some 6), .new 1 [(.int .u32 0), (.int .u32 0), (.int .u32 0), (.int .u32 0), (.int .u32 0), (.int .u32 0), (.int .u32 0), (.int .u32 0)], none, []⟩])
   (.seq
    (.reg [] [
      ⟨(some 11), .iap 8 1 (.t 3) (.k (.int .i64 0)), none, []⟩,
      ⟨(some 12), .load false 1 (.t 11), none, []⟩,
      ⟨(some 7), .mv (.t 12), none, []⟩])
    (.seq
     (.reg [] [
       ⟨(some 13), .iap 8 1 (.t 3) (.k (.int .i64 4)), none, []⟩,
       ⟨(some 14), .load false 1 (.t 13), none, []⟩,
       ⟨(some 8), .mv (.t 14), none, []⟩])
     (.seq
      (.reg [] [
        ⟨(some 15), .iap 8 1 (.t 3) (.k (.int .i64 7)), none, []⟩,
        ⟨(some 16), .load false 1 (.t 15), none, []⟩,
        ⟨(some 17), .mv (.t 8), none, []⟩,
        ⟨(some 18), .qcall n_ref01_turn [(.t 17), (.k (.int .i64 6))] [], none, []⟩,
        ⟨(some 19), .mv (.t 8), none, []⟩,
        ⟨(some 20), .qcall n_ref01_turn [(.t 19), (.k (.int .i64 11))] [], none, []⟩,
        ⟨(some 21), .bin .plain .xor (.t 18) (.t 20), none, []⟩,
        ⟨(some 22), .mv (.t 8), none, []⟩,
        ⟨(some 23), .qcall n_ref01_turn [(.t 22), (.k (.int .i64 25))] [], none, []⟩,
        ⟨(some 24), .bin .plain .xor (.t 21) (.t 23), none, []⟩,
        ⟨(some 25), .bin .plain .add (.t 16) (.t 24), none, []⟩,
        ⟨(some 26), .mv (.t 8), none, []⟩,
        ⟨(some 27), .iap 8 1 (.t 3) (.k (.int .i64 5)), none, []⟩,
        ⟨(some 28), .load false 1 (.t 27), none, []⟩,
        ⟨(some 29), .bin .plain .and (.t 26) (.t 28), none, []⟩,
        ⟨(some 30), .mv (.t 8), none, []⟩,
        ⟨(some 31), .un .xor (.t 30), none, []⟩,
        ⟨(some 32), .iap 8 1 (.t 3) (.k (.int .i64 6)), none, []⟩,
        ⟨(some 33), .load false 1 (.t 32), none, []⟩,
        ⟨(some 34), .bin .plain .and (.t 31) (.t 33), none, []⟩,
        ⟨(some 35), .bin .plain .xor (.t 29) (.t 34), none, []⟩,
        ⟨(some 36), .bin .plain .add (.t 25) (.t 35), none, []⟩,
        ⟨(some 37), .mv (.t 1), none, []⟩,
        ⟨(some 38), .bin .plain .add (.t 36) (.t 37), none, []⟩,
        ⟨(some 39), .mv (.t 2), none, []⟩,
        ⟨(some 40), .bin .plain .add (.t 38) (.t 39), none, []⟩,
        ⟨(some 9), .mv (.t 40), none, []⟩])
      (.seq
       (.reg [] [
         ⟨(some 41), .mv (.t 7), none, []⟩,
         ⟨(some 42), .qcall n_ref01_turn [(.t 41), (.k (.int .i64 2))] [], none, []⟩,
         ⟨(some 43), .mv (.t 7), none, []⟩,
         ⟨(some 44), .qcall n_ref01_turn [(.t 43), (.k (.int .i64 13))] [], none, []⟩,
         ⟨(some 45), .bin .plain .xor (.t 42) (.t 44), none, []⟩,
         ⟨(some 46), .mv (.t 7), none, []⟩,
         ⟨(some 47), .qcall n_ref01_turn [(.t 46), (.k (.int .i64 22))] [], none, []⟩,
         ⟨(some 48), .bin .plain .xor (.t 45) (.t 47), none, []⟩,
         ⟨(some 49), .mv (.t 7), none, []⟩,
         ⟨(some 50), .iap 8 1 (.t 3) (.k (.int .i64 1)), none, []⟩,
         ⟨(some 51), .load false 1 (.t 50), none, []⟩,
         ⟨(some 52), .bin .plain .and (.t 49) (.t 51), none, []⟩,
         ⟨(some 53), .mv (.t 7), none, []⟩,
         ⟨(some 54), .iap 8 1 (.t 3) (.k (.int .i64 2)), none, []⟩,
         ⟨(some 55), .load false 1 (.t 54), none, []⟩,
         ⟨(some 56), .bin .plain .and (.t 53) (.t 55), none, []⟩,
         ⟨(some 57), .bin .plain .xor (.t 52) (.t 56), none, []⟩,
         ⟨(some 58), .iap 8 1 (.t 3) (.k (.int .i64 1)), none, []⟩,
         ⟨(some 59), .load false 1 (.t 58), none, []⟩,
         ⟨(some 60), .iap 8 1 (.t 3) (.k (.int .i64 2)), none, []⟩,
         ⟨(some 61), .load false 1 (.t 60), none, []⟩,
         ⟨(some 62), .bin .plain .and (.t 59) (.t 61), none, []⟩,
         ⟨(some 63), .bin .plain .xor (.t 57) (.t 62), none, []⟩,
         ⟨(some 64), .bin .plain .add (.t 48) (.t 63), none, []⟩,
         ⟨(some 10), .mv (.t 64), none, []⟩])
       (.seq
        (.reg [] [
          ⟨(some 65), .mv (.t 9), none, []⟩,
          ⟨(some 66), .mv (.t 10), none, []⟩,
          ⟨(some 67), .bin .plain .add (.t 65) (.t 66), none, []⟩,
          ⟨(some 68), .mv (.t 7), none, []⟩,
          ⟨(some 69), .iap 8 1 (.t 3) (.k (.int .i64 1)), none, []⟩,
          ⟨(some 70), .load false 1 (.t 69), none, []⟩,
          ⟨(some 71), .iap 8 1 (.t 3) (.k (.int .i64 2)), none, []⟩,
          ⟨(some 72), .load false 1 (.t 71), none, []⟩,
          ⟨(some 73), .iap 8 1 (.t 3) (.k (.int .i64 3)), none, []⟩,
          ⟨(some 74), .load false 1 (.t 73), none, []⟩,
          ⟨(some 75), .mv (.t 9), none, []⟩,
          ⟨(some 76), .bin .plain .add (.t 74) (.t 75), none, []⟩,
          ⟨(some 77), .mv (.t 8), none, []⟩,
          ⟨(some 78), .iap 8 1 (.t 3) (.k (.int .i64 5)), none, []⟩,
          ⟨(some 79), .load false 1 (.t 78), none, []⟩,
          ⟨(some 80), .iap 8 1 (.t 3) (.k (.int .i64 6)), none, []⟩,
          ⟨(some 81), .load false 1 (.t 80), none, []⟩,
          ⟨(some 82), .build [(.int .u32 0), (.int .u32 0), (.int .u32 0), (.int .u32 0), (.int .u32 0), (.int .u32 0), (.int .u32 0), (.int .u32 0)] [(0, 1, (.t 67)), (1, 1, (.t 68)), (2, 1, (.t 70)), (3, 1, (.t 72)), (4, 1, (.t 76)), (5, 1, (.t 77)), (6, 1, (.t 79)), (7, 1, (.t 81))], none, []⟩,
          ⟨none, .store 8 (.t 6) (.t 82), none, []⟩])
        (.ret i_ref01_Round_r))))))),
  [.cell 6 true 8], [], false, []⟩

def i_ref01_turn_r : List Bool := [false, false, false, false, true, false, false, false, false, false, false, false, false]
/-- heartwood/heartwoodref01.turn -/
def i_ref01_turn : Ev.Fn := ⟨2, 13, 0,
  (.seq
   (.reg [] [
     ⟨(some 4), .mv (.k (.int .u32 0)), none, []⟩])
   (.seq
    (.reg [] [
      ⟨(some 5), .mv (.t 0), none, []⟩,
      ⟨(some 6), .mv (.t 1), none, []⟩,
      ⟨(some 7), .bin .plain .shr (.t 5) (.t 6), none, []⟩,
      ⟨(some 8), .mv (.t 0), none, []⟩,
      ⟨(some 9), .mv (.t 1), none, []⟩,
      ⟨(some 10), .bin .plain .sub (.k (.int .i64 32)) (.t 9), none, []⟩,
      ⟨(some 11), .bin .plain .shl (.t 8) (.t 10), none, []⟩,
      ⟨(some 12), .bin .plain .or (.t 7) (.t 11), none, []⟩,
      ⟨(some 4), .mv (.t 12), none, []⟩])
    (.ret i_ref01_turn_r))),
  [.tmp 4], [], false, []⟩

def i_law01_ShaTails_r : List Bool := [false, false, true, false, false, false, false, false, false, false, false, false, false, false, false, false, false, false, false, false, false, false, false, false, false, false, false, false, false, false, false, false, false, false, false, false, false, false, false, false, false, false, false, false, false, false, false]
/-- heartwood/heartwoodlaw01.ShaTails -/
def i_law01_ShaTails : Ev.Fn := ⟨1, 47, 0,
  (.seq
   (.reg [] [
     ⟨(some 2), .mv (.k (.bool false)), none, []⟩])
   (.seq
    (.reg [] [
      ⟨(some 8), .qcall n_sha_Tail [(.k (.int .i64 55))] [], none, []⟩,
      ⟨(some 7), .mv (.t 8), none, []⟩,
      ⟨(some 9), .ext 0 (.t 7), none, []⟩,
      ⟨(some 10), .ext 1 (.t 7), none, []⟩,
      ⟨(some 3), .cn (.t 9), none, []⟩,
      ⟨(some 4), .mv (.t 10), none, []⟩])
    (.seq
     (.reg [] [
       ⟨(some 12), .mv (.t 0), none, []⟩,
       ⟨(some 13), .qcall n_sha_Tail [(.t 12)] [], none, []⟩,
       ⟨(some 11), .mv (.t 13), none, []⟩,
       ⟨(some 14), .ext 0 (.t 11), none, []⟩,
       ⟨(some 15), .ext 1 (.t 11), none, []⟩,
       ⟨(some 5), .cn (.t 14), none, []⟩,
       ⟨(some 6), .mv (.t 15), none, []⟩])
     (.seq
      (.seq
       (.reg [] [
         ⟨(some 16), .cn (.t 3), none, []⟩,
         ⟨(some 17), .len false (.t 16), none, []⟩,
         ⟨(some 18), .bin .plain .neq (.t 17) (.k (.int .i64 9)), none, []⟩,
         ⟨(some 19), .mv (.t 18), none, []⟩,
         ⟨(some 20), .mv (.t 4), (some (19, false)), []⟩,
         ⟨(some 21), .bin (.iface ty_api_Code true) .neq (.t 20) (.k .nilIface), (some (19, false)), []⟩,
         ⟨(some 22), .pick (.t 19) (.k (.bool true)) (.t 21), none, []⟩])
       (.cond (.t 22)
        (.seq
         (.reg [] [
           ⟨(some 2), .mv (.k (.bool false)), none, []⟩])
         (.ret i_law01_ShaTails_r))
        .skip))
      (.seq
       (.seq
        (.reg [] [
          ⟨(some 23), .mv (.t 0), none, []⟩,
          ⟨(some 24), .bin .plain .lss (.t 23) (.k (.int .i64 0)), none, []⟩,
          ⟨(some 25), .mv (.t 24), none, []⟩,
          ⟨(some 26), .mv (.t 0), (some (25, false)), []⟩,
          ⟨(some 27), .bin .plain .gtr (.t 26) (.k (.int .i64 1125899906842624)), (some (25, false)), []⟩,
          ⟨(some 28), .pick (.t 25) (.k (.bool true)) (.t 27), none, []⟩])
        (.cond (.t 28)
         (.seq
          (.reg [] [
            ⟨(some 29), .mv (.t 6), none, []⟩,
            ⟨(some 30), .mki ty_api_Code (.k (.int .i64 1)), none, []⟩,
            ⟨(some 31), .bin (.iface ty_api_Code false) .eql (.t 29) (.t 30), none, []⟩,
            ⟨(some 32), .mv (.t 31), none, []⟩,
            ⟨(some 33), .cn (.t 5), (some (32, true)), []⟩,
            ⟨(some 34), .len false (.t 33), (some (32, true)), []⟩,
            ⟨(some 35), .bin .plain .eql (.t 34) (.k (.int .i64 0)), (some (32, true)), []⟩,
            ⟨(some 36), .pick (.t 32) (.t 35) (.k (.bool false)), none, []⟩,
            ⟨(some 2), .mv (.t 36), none, []⟩])
          (.ret i_law01_ShaTails_r))
         .skip))
       (.seq
        (.reg [] [
          ⟨(some 37), .mv (.t 6), none, []⟩,
          ⟨(some 38), .bin (.iface ty_api_Code true) .eql (.t 37) (.k .nilIface), none, []⟩,
          ⟨(some 39), .mv (.t 38), none, []⟩,
          ⟨(some 40), .cn (.t 5), (some (39, true)), []⟩,
          ⟨(some 41), .b2s (.t 40), (some (39, true)), []⟩,
          ⟨(some 42), .mv (.t 0), (some (39, true)), []⟩,
          ⟨(some 43), .qcall n_ref01_Tail [(.t 42)] [], (some (39, true)), []⟩,
          ⟨(some 44), .b2s (.t 43), (some (39, true)), []⟩,
          ⟨(some 45), .bin .plain .eql (.t 41) (.t 44), (some (39, true)), []⟩,
          ⟨(some 46), .pick (.t 39) (.t 45) (.k (.bool false)), none, []⟩,
          ⟨(some 2), .mv (.t 46), none, []⟩])
        (.ret i_law01_ShaTails_r))))))),
  [.tmp 2], [], false, []⟩

def i_sha_Tail_r : List Bool := [false, false, true, true, false, false, false, false, false, false, false, false, false, false, false, false, false, false, false, false, false, false, false, false, false, false, false, false, false, false, false, false, false, false, false, false, false]
def i_sha_Tail_j1 : List Bool := [true, false, false, false, true, false, false, false, false, false, false, false, false, false, false, false, false, false, false, false, false, false, false, false, false, false, false, false, false, false, false, false, false, false, false, false, false]
def i_sha_Tail_k0 : List Bool := [true, false, false, false, true, false, false, false, false, false, false, false, false, false, false, false, false, false, false, false, false, false, false, false, false, false, false, false, false, false, false, false, false, false, false, false, false]
def i_sha_Tail_j0 : List Bool := [true, false, false, false, true, false, false, false, false, false, false, false, false, false, false, false, false, false, false, false, false, false, false, false, false, false, false, false, false, false, false, false, false, false, false, false, false]
def i_sha_Tail_j3 : List Bool := [true, false, false, false, true, true, false, false, false, false, false, false, false, false, false, false, false, false, false, false, false, false, false, false, false, false, false, false, false, false, false, false, false, false, false, false, false]
def i_sha_Tail_k1 : List Bool := [true, false, false, false, true, true, false, false, false, false, false, false, false, false, false, false, false, false, false, false, false, false, false, false, false, false, false, false, false, false, false, false, false, false, false, false, false]
def i_sha_Tail_j2 : List Bool := [false, false, false, false, true, false, false, false, false, false, false, false, false, false, false, false, false, false, false, false, false, false, false, false, false, false, false, false, false, false, false, false, false, false, false, false, false]
abbrev s_sha_Tail_K0 (t0 t4 : AV) (h : Heap) : St := ⟨[t0, .undef, .undef, .undef, t4, .undef, .undef, .undef, .undef, .undef, .undef, .undef, .undef, .undef, .undef, .undef, .undef, .undef, .undef, .undef, .undef, .undef, .undef, .undef, .undef, .undef, .undef, .undef, .undef, .undef, .undef, .undef, .undef, .undef, .undef, .undef, .undef], h⟩
def i_sha_Tail_b0 : IR :=
  (.seq
   (.seq
    (.reg [] [
      ⟨(some 14), .mv (.t 0), none, []⟩,
      ⟨(some 15), .cn (.t 4), none, []⟩,
      ⟨(some 16), .len false (.t 15), none, []⟩,
      ⟨(some 17), .bin .plain .add (.t 14) (.t 16), none, []⟩,
      ⟨(some 18), .bin .plain .rem (.t 17) (.k (.int .i64 64)), none, []⟩,
      ⟨(some 19), .bin .plain .neq (.t 18) (.k (.int .i64 56)), none, []⟩])
    (.cond (.t 19)
     .skip
     (.exit 0 i_sha_Tail_j0)))
   (.block 1 i_sha_Tail_j1
    (.reg [] [
      ⟨(some 20), .mv (.t 4), none, []⟩,
      ⟨(some 21), .litd 1 1 [(.int .u8 0)] [(0, (.k (.int .u8 0)))], none, []⟩,
      ⟨(some 22), .app 0 ty_uint8 1 1 (.t 20) (.t 21), none, []⟩,
      ⟨(some 4), .mv (.t 22), none, []⟩])))

abbrev s_sha_Tail_J0 (t0 t4 : AV) (h : Heap) : St := ⟨[t0, .undef, .undef, .undef, t4, .undef, .undef, .undef, .undef, .undef, .undef, .undef, .undef, .undef, .undef, .undef, .undef, .undef, .undef, .undef, .undef, .undef, .undef, .undef, .undef, .undef, .undef, .undef, .undef, .undef, .undef, .undef, .undef, .undef, .undef, .undef, .undef], h⟩
abbrev s_sha_Tail_K1 (t0 t4 t5 : AV) (h : Heap) : St := ⟨[t0, .undef, .undef, .undef, t4, t5, .undef, .undef, .undef, .undef, .undef, .undef, .undef, .undef, .undef, .undef, .undef, .undef, .undef, .undef, .undef, .undef, .undef, .undef, .undef, .undef, .undef, .undef, .undef, .undef, .undef, .undef, .undef, .undef, .undef, .undef, .undef], h⟩
def i_sha_Tail_b1 : IR :=
  (.seq
   (.seq
    (.reg [] [
      ⟨(some 23), .mv (.t 5), none, []⟩,
      ⟨(some 24), .bin .plain .geq (.t 23) (.k (.int .i64 0)), none, []⟩])
    (.cond (.t 24)
     .skip
     (.exit 2 i_sha_Tail_j2)))
   (.seq
    (.block 3 i_sha_Tail_j3
     (.reg [] [
       ⟨(some 27), .mv (.t 4), none, []⟩,
       ⟨(some 28), .mv (.t 0), none, []⟩,
       ⟨(some 29), .conv .u64 (.t 28), none, []⟩,
       ⟨(some 30), .bin .plain .mul (.k (.int .u64 8)) (.t 29), none, []⟩,
       ⟨(some 31), .mv (.t 5), none, []⟩,
       ⟨(some 32), .bin .plain .shr (.t 30) (.t 31), none, []⟩,
       ⟨(some 33), .conv .u8 (.t 32), none, []⟩,
       ⟨(some 34), .litd 1 1 [(.int .u8 0)] [(0, (.t 33))], none, []⟩,
       ⟨(some 35), .app 0 ty_uint8 1 1 (.t 27) (.t 34), none, []⟩,
       ⟨(some 4), .mv (.t 35), none, []⟩]))
    (.reg [] [
      ⟨(some 25), .mv (.t 5), none, []⟩,
      ⟨(some 26), .bin .plain .sub (.t 25) (.k (.int .i64 8)), none, []⟩,
      ⟨(some 5), .mv (.t 26), none, []⟩])))

abbrev s_sha_Tail_J2 (t4 : AV) (h : Heap) : St := ⟨[.undef, .undef, .undef, .undef, t4, .undef, .undef, .undef, .undef, .undef, .undef, .undef, .undef, .undef, .undef, .undef, .undef, .undef, .undef, .undef, .undef, .undef, .undef, .undef, .undef, .undef, .undef, .undef, .undef, .undef, .undef, .undef, .undef, .undef, .undef, .undef, .undef], h⟩
/-- heartwood/sha.Tail -/
def i_sha_Tail : Ev.Fn := ⟨1, 37, 1,
  (.seq
   (.reg [] [
     ⟨(some 2), .cn (.k (.slice none 0 0)), none, []⟩,
     ⟨(some 3), .mv (.k .nilIface), none, []⟩])
   (.seq
    (.seq
     (.reg [] [
       ⟨(some 6), .mv (.t 0), none, []⟩,
       ⟨(some 7), .bin .plain .lss (.t 6) (.k (.int .i64 0)), none, []⟩,
       ⟨(some 8), .mv (.t 7), none, []⟩,
       ⟨(some 9), .mv (.t 0), (some (8, false)), []⟩,
       ⟨(some 10), .bin .plain .gtr (.t 9) (.k (.int .i64 1125899906842624)), (some (8, false)), []⟩,
       ⟨(some 11), .pick (.t 8) (.k (.bool true)) (.t 10), none, []⟩])
     (.cond (.t 11)
      (.seq
       (.reg [] [
         ⟨(some 12), .mki ty_api_Code (.k (.int .i64 1)), none, []⟩,
         ⟨(some 2), .cn (.k (.slice none 0 0)), none, []⟩,
         ⟨(some 3), .mv (.t 12), none, []⟩])
       (.ret i_sha_Tail_r))
      .skip))
    (.seq
     (.reg [] [
       ⟨(some 13), .lit 0 ty_uint8 1 1 [(.int .u8 0)] [(0, (.k (.int .u8 128)))], none, []⟩,
       ⟨(some 4), .mv (.t 13), none, []⟩])
     (.seq
      (.block 0 i_sha_Tail_j0
       (.loop i_sha_Tail_k0 i_sha_Tail_b0))
      (.seq
       (.seq
        (.reg [] [
          ⟨(some 5), .mv (.k (.int .i64 56)), none, []⟩])
        (.block 2 i_sha_Tail_j2
         (.loop i_sha_Tail_k1 i_sha_Tail_b1)))
       (.seq
        (.reg [] [
          ⟨(some 36), .cn (.t 4), none, [4]⟩,
          ⟨(some 2), .cn (.t 36), none, [36]⟩,
          ⟨(some 3), .mv (.k .nilIface), none, []⟩])
        (.ret i_sha_Tail_r))))))),
  [.tmp 2, .tmp 3], [], false, []⟩

def i_ref01_Tail_r : List Bool := [false, false, true, false, false, false, false, false, false, false, false, false, false, false, false, false, false, false, false, false, false, false, false, false, false, false, false, false, false, false, false, false, false, false, false, false]
def i_ref01_Tail_j1 : List Bool := [true, false, false, true, false, false, false, false, false, false, false, false, false, false, false, false, false, false, false, false, false, false, false, false, false, false, false, false, false, false, false, false, false, false, false, false]
def i_ref01_Tail_k0 : List Bool := [true, false, false, true, false, false, false, false, false, false, false, false, false, false, false, false, false, false, false, false, false, false, false, false, false, false, false, false, false, false, false, false, false, false, false, false]
def i_ref01_Tail_j0 : List Bool := [true, false, false, true, false, false, false, false, false, false, false, false, false, false, false, false, false, false, false, false, false, false, false, false, false, false, false, false, false, false, false, false, false, false, false, false]
def i_ref01_Tail_j3 : List Bool := [false, false, false, true, true, true, true, false, false, false, false, false, false, false, false, false, false, false, false, false, false, false, false, false, false, false, false, false, false, false, false, false, false, false, false, false]
def i_ref01_Tail_k1 : List Bool := [false, false, false, true, true, true, true, false, false, false, false, false, false, false, false, false, false, false, false, false, false, false, false, false, false, false, false, false, false, false, false, false, false, false, false, false]
def i_ref01_Tail_j2 : List Bool := [false, false, false, true, true, false, false, false, false, false, false, false, false, false, false, false, false, false, false, false, false, false, false, false, false, false, false, false, false, false, false, false, false, false, false, false]
abbrev s_ref01_Tail_K0 (t0 t3 : AV) (h : Heap) : St := ⟨[t0, .undef, .undef, t3, .undef, .undef, .undef, .undef, .undef, .undef, .undef, .undef, .undef, .undef, .undef, .undef, .undef, .undef, .undef, .undef, .undef, .undef, .undef, .undef, .undef, .undef, .undef, .undef, .undef, .undef, .undef, .undef, .undef, .undef, .undef, .undef], h⟩
def i_ref01_Tail_b0 : IR :=
  (.seq
   (.seq
    (.reg [] [
      ⟨(some 8), .mv (.t 0), none, []⟩,
      ⟨(some 9), .cn (.t 3), none, []⟩,
      ⟨(some 10), .len false (.t 9), none, []⟩,
      ⟨(some 11), .bin .plain .add (.t 8) (.t 10), none, []⟩,
      ⟨(some 12), .bin .plain .rem (.t 11) (.k (.int .i64 64)), none, []⟩,
      ⟨(some 13), .bin .plain .neq (.t 12) (.k (.int .i64 56)), none, []⟩])
    (.cond (.t 13)
     .skip
     (.exit 0 i_ref01_Tail_j0)))
   (.block 1 i_ref01_Tail_j1
    (.reg [] [
      ⟨(some 14), .mv (.t 3), none, []⟩,
      ⟨(some 15), .litd 1 1 [(.int .u8 0)] [(0, (.k (.int .u8 0)))], none, []⟩,
      ⟨(some 16), .app 0 ty_uint8 1 1 (.t 14) (.t 15), none, []⟩,
      ⟨(some 3), .mv (.t 16), none, []⟩])))

abbrev s_ref01_Tail_J0 (t0 t3 : AV) (h : Heap) : St := ⟨[t0, .undef, .undef, t3, .undef, .undef, .undef, .undef, .undef, .undef, .undef, .undef, .undef, .undef, .undef, .undef, .undef, .undef, .undef, .undef, .undef, .undef, .undef, .undef, .undef, .undef, .undef, .undef, .undef, .undef, .undef, .undef, .undef, .undef, .undef, .undef], h⟩
abbrev s_ref01_Tail_K1 (t3 t4 t5 t6 : AV) (h : Heap) : St := ⟨[.undef, .undef, .undef, t3, t4, t5, t6, .undef, .undef, .undef, .undef, .undef, .undef, .undef, .undef, .undef, .undef, .undef, .undef, .undef, .undef, .undef, .undef, .undef, .undef, .undef, .undef, .undef, .undef, .undef, .undef, .undef, .undef, .undef, .undef, .undef], h⟩
def i_ref01_Tail_b1 : IR :=
  (.seq
   (.seq
    (.reg [] [
      ⟨(some 21), .mv (.t 6), none, []⟩,
      ⟨(some 22), .bin .plain .geq (.t 21) (.k (.int .i64 0)), none, []⟩])
    (.cond (.t 22)
     .skip
     (.exit 2 i_ref01_Tail_j2)))
   (.seq
    (.block 3 i_ref01_Tail_j3
     (.seq
      (.reg [] [
        ⟨(some 25), .mv (.t 4), none, []⟩,
        ⟨(some 26), .mv (.t 6), none, []⟩,
        ⟨(some 27), .mv (.t 5), none, []⟩,
        ⟨(some 28), .bin .plain .rem (.t 27) (.k (.int .u64 256)), none, []⟩,
        ⟨(some 29), .conv .u8 (.t 28), none, []⟩,
        ⟨(some 30), .ia 1 (.t 25) (.t 26), none, []⟩,
        ⟨none, .store 1 (.t 30) (.t 29), none, []⟩])
      (.reg [] [
        ⟨(some 31), .mv (.t 5), none, []⟩,
        ⟨(some 32), .bin .plain .quo (.t 31) (.k (.int .u64 256)), none, []⟩,
        ⟨(some 5), .mv (.t 32), none, []⟩])))
    (.reg [] [
      ⟨(some 23), .mv (.t 6), none, []⟩,
      ⟨(some 24), .bin .plain .sub (.t 23) (.k (.int .i64 1)), none, []⟩,
      ⟨(some 6), .mv (.t 24), none, []⟩])))

abbrev s_ref01_Tail_J2 (t3 t4 : AV) (h : Heap) : St := ⟨[.undef, .undef, .undef, t3, t4, .undef, .undef, .undef, .undef, .undef, .undef, .undef, .undef, .undef, .undef, .undef, .undef, .undef, .undef, .undef, .undef, .undef, .undef, .undef, .undef, .undef, .undef, .undef, .undef, .undef, .undef, .undef, .undef, .undef, .undef, .undef], h⟩
/-- heartwood/heartwoodref01.Tail -/
def i_ref01_Tail : Ev.Fn := ⟨1, 36, 2,
  (.seq
   (.reg [] [
     ⟨(some 2), .cn (.k (.slice none 0 0)), none, []⟩])
   (.seq
    (.reg [] [
      ⟨(some 7), .lit 0 ty_uint8 1 1 [(.int .u8 0)] [(0, (.k (.int .u8 128)))], none, []⟩,
      ⟨(some 3), .mv (.t 7), none, []⟩])
    (.seq
     (.block 0 i_ref01_Tail_j0
      (.loop i_ref01_Tail_k0 i_ref01_Tail_b0))
     (.seq
      (.reg [] [
        ⟨(some 17), .make 1 ty_uint8 1 1 [(.int .u8 0)] (.k (.int .i64 8)) (.k (.int .i64 8)), none, []⟩,
        ⟨(some 4), .mv (.t 17), none, []⟩])
      (.seq
       (.reg [] [
         ⟨(some 18), .mv (.t 0), none, []⟩,
         ⟨(some 19), .conv .u64 (.t 18), none, []⟩,
         ⟨(some 20), .bin .plain .mul (.k (.int .u64 8)) (.t 19), none, []⟩,
         ⟨(some 5), .mv (.t 20), none, []⟩])
       (.seq
        (.seq
         (.reg [] [
           ⟨(some 6), .mv (.k (.int .i64 7)), none, []⟩])
         (.block 2 i_ref01_Tail_j2
          (.loop i_ref01_Tail_k1 i_ref01_Tail_b1)))
        (.seq
         (.reg [] [
           ⟨(some 33), .mv (.t 3), none, []⟩,
           ⟨(some 34), .cn (.t 4), none, [4]⟩,
           ⟨(some 35), .app 0 ty_uint8 1 1 (.t 33) (.t 34), none, []⟩,
           ⟨(some 2), .cn (.t 35), none, [35]⟩])
         (.ret i_ref01_Tail_r)))))))),
  [.tmp 2], [], false, []⟩

def i_law02_CoderNumbers_r : List Bool := [false, false, true, false, false, false, false, false, false, false, false, false, false, false, false]
/-- heartwood/heartwoodlaw02.CoderNumbers -/
def i_law02_CoderNumbers : Ev.Fn := ⟨1, 15, 3,
  (.seq
   (.reg [] [
     ⟨(some 2), .mv (.k (.bool false)), none, []⟩])
   (.seq
    (.reg [(6, 8)] [
      ⟨(some 3), .qcall n_coder_Number [(.k (.int .u64 248))] [0], none, []⟩,
      ⟨(some 4), .b2s (.t 3), none, []⟩,
      ⟨(some 5), .bin .plain .eql (.t 4) (.k (.string ⟨#[248, 248]⟩)), none, []⟩,
      ⟨(some 6), .mv (.t 5), none, []⟩,
      ⟨(some 7), .mv (.t 0), (some (6, true)), []⟩,
      ⟨(some 8), .qcall n_coder_Number [(.t 7)] [1], (some (6, true)), []⟩,
      ⟨(some 9), .b2s (.t 8), (some (6, true)), []⟩,
      ⟨(some 10), .mv (.t 0), (some (6, true)), []⟩,
      ⟨(some 11), .qcall n_ref02_Number [(.t 10)] [2], (some (6, true)), []⟩,
      ⟨(some 12), .b2s (.t 11), (some (6, true)), []⟩,
      ⟨(some 13), .bin .plain .eql (.t 9) (.t 12), (some (6, true)), []⟩,
      ⟨(some 14), .pick (.t 6) (.t 13) (.k (.bool false)), none, []⟩,
      ⟨(some 2), .mv (.t 14), none, []⟩])
    (.ret i_law02_CoderNumbers_r))),
  [.tmp 2], [], false, []⟩

def i_coder_Number_r : List Bool := [false, false, true, false, false, false, false, false, false, false, false, false, false, false, false, false, false, false, false, false, false, false, false, false, false, false, false, false, false, false, false, false, false, false, false, false, false, false, false, false, false, false, false]
def i_coder_Number_j1 : List Bool := [true, false, false, true, false, false, false, false, false, false, false, false, false, false, false, false, false, false, false, false, false, false, false, false, false, false, false, false, false, false, false, false, false, false, false, false, false, false, false, false, false, false, false]
def i_coder_Number_k0 : List Bool := [true, false, false, true, false, false, false, false, false, false, false, false, false, false, false, false, false, false, false, false, false, false, false, false, false, false, false, false, false, false, false, false, false, false, false, false, false, false, false, false, false, false, false]
def i_coder_Number_j0 : List Bool := [true, false, false, true, false, false, false, false, false, false, false, false, false, false, false, false, false, false, false, false, false, false, false, false, false, false, false, false, false, false, false, false, false, false, false, false, false, false, false, false, false, false, false]
def i_coder_Number_j3 : List Bool := [true, false, false, true, true, false, false, false, false, false, false, false, false, false, false, false, false, false, false, false, false, false, false, false, false, false, true, true, false, false, false, false, false, false, false, false, false, false, false, false, false, false, false]
def i_coder_Number_k1 : List Bool := [true, false, false, true, true, false, false, false, false, false, false, false, false, false, false, false, false, false, false, false, false, false, false, false, false, false, true, true, false, false, false, false, false, false, false, false, false, false, false, false, false, false, false]
def i_coder_Number_j2 : List Bool := [false, false, false, false, true, false, false, false, false, false, false, false, false, false, false, false, false, false, false, false, false, false, false, false, false, false, false, false, false, false, false, false, false, false, false, false, false, false, false, false, false, false, false]
abbrev s_coder_Number_K0 (t0 t3 : AV) (h : Heap) : St := ⟨[t0, .undef, .undef, t3, .undef, .undef, .undef, .undef, .undef, .undef, .undef, .undef, .undef, .undef, .undef, .undef, .undef, .undef, .undef, .undef, .undef, .undef, .undef, .undef, .undef, .undef, .undef, .undef, .undef, .undef, .undef, .undef, .undef, .undef, .undef, .undef, .undef, .undef, .undef, .undef, .undef, .undef, .undef], h⟩
def i_coder_Number_b0 : IR :=
  (.seq
   (.seq
    (.reg [] [
      ⟨(some 11), .mv (.t 3), none, []⟩,
      ⟨(some 12), .bin .plain .lss (.t 11) (.k (.int .i64 8)), none, []⟩,
      ⟨(some 13), .mv (.t 12), none, []⟩,
      ⟨(some 14), .mv (.t 0), (some (13, true)), []⟩,
      ⟨(some 15), .mv (.t 3), (some (13, true)), []⟩,
      ⟨(some 16), .bin .plain .mul (.k (.int .i64 8)) (.t 15), (some (13, true)), []⟩,
      ⟨(some 17), .bin .plain .shr (.t 14) (.t 16), (some (13, true)), []⟩,
      ⟨(some 18), .bin .plain .gtr (.t 17) (.k (.int .u64 0)), (some (13, true)), []⟩,
      ⟨(some 19), .pick (.t 13) (.t 18) (.k (.bool false)), none, []⟩])
    (.cond (.t 19)
     .skip
     (.exit 0 i_coder_Number_j0)))
   (.block 1 i_coder_Number_j1
    (.reg [] [
      ⟨(some 20), .mv (.t 3), none, []⟩,
      ⟨(some 21), .bin .plain .add (.t 20) (.k (.int .i64 1)), none, []⟩,
      ⟨(some 3), .mv (.t 21), none, []⟩])))

abbrev s_coder_Number_J0 (t0 t3 : AV) (h : Heap) : St := ⟨[t0, .undef, .undef, t3, .undef, .undef, .undef, .undef, .undef, .undef, .undef, .undef, .undef, .undef, .undef, .undef, .undef, .undef, .undef, .undef, .undef, .undef, .undef, .undef, .undef, .undef, .undef, .undef, .undef, .undef, .undef, .undef, .undef, .undef, .undef, .undef, .undef, .undef, .undef, .undef, .undef, .undef, .undef], h⟩
abbrev s_coder_Number_K1 (t0 t3 t4 t26 t27 : AV) (h : Heap) : St := ⟨[t0, .undef, .undef, t3, t4, .undef, .undef, .undef, .undef, .undef, .undef, .undef, .undef, .undef, .undef, .undef, .undef, .undef, .undef, .undef, .undef, .undef, .undef, .undef, .undef, .undef, t26, t27, .undef, .undef, .undef, .undef, .undef, .undef, .undef, .undef, .undef, .undef, .undef, .undef, .undef, .undef, .undef], h⟩
def i_coder_Number_b1 : IR :=
  (.seq
   (.reg [] [
     ⟨(some 28), .bin .plain .lss (.t 27) (.t 26), none, []⟩])
   (.seq
    (.cond (.t 28)
     .skip
     (.exit 2 i_coder_Number_j2))
    (.seq
     (.block 3 i_coder_Number_j3
      (.seq
       (.reg [] [
         ⟨(some 29), .mv (.t 27), none, []⟩,
         ⟨(some 5), .mv (.t 29), none, []⟩])
       (.reg [] [
         ⟨(some 30), .mv (.t 4), none, []⟩,
         ⟨(some 31), .mv (.t 0), none, []⟩,
         ⟨(some 32), .mv (.t 3), none, []⟩,
         ⟨(some 33), .bin .plain .sub (.t 32) (.k (.int .i64 1)), none, []⟩,
         ⟨(some 34), .mv (.t 5), none, []⟩,
         ⟨(some 35), .bin .plain .sub (.t 33) (.t 34), none, []⟩,
         ⟨(some 36), .bin .plain .mul (.k (.int .i64 8)) (.t 35), none, []⟩,
         ⟨(some 37), .bin .plain .shr (.t 31) (.t 36), none, []⟩,
         ⟨(some 38), .conv .u8 (.t 37), none, []⟩,
         ⟨(some 39), .litd 1 1 [(.int .u8 0)] [(0, (.t 38))], none, []⟩,
         ⟨(some 40), .app 0 ty_uint8 1 1 (.t 30) (.t 39), none, []⟩,
         ⟨(some 4), .mv (.t 40), none, []⟩])))
     (.reg [] [
       ⟨(some 41), .bin .plain .add (.t 27) (.k (.int .i64 1)), none, []⟩,
       ⟨(some 27), .mv (.t 41), none, []⟩]))))

abbrev s_coder_Number_J2 (t4 : AV) (h : Heap) : St := ⟨[.undef, .undef, .undef, .undef, t4, .undef, .undef, .undef, .undef, .undef, .undef, .undef, .undef, .undef, .undef, .undef, .undef, .undef, .undef, .undef, .undef, .undef, .undef, .undef, .undef, .undef, .undef, .undef, .undef, .undef, .undef, .undef, .undef, .undef, .undef, .undef, .undef, .undef, .undef, .undef, .undef, .undef, .undef], h⟩
/-- heartwood/coder.Number -/
def i_coder_Number : Ev.Fn := ⟨1, 43, 1,
  (.seq
   (.reg [] [
     ⟨(some 2), .mv (.k (.slice none 0 0)), none, []⟩])
   (.seq
    (.seq
     (.reg [] [
       ⟨(some 6), .mv (.t 0), none, []⟩,
       ⟨(some 7), .bin .plain .leq (.t 6) (.k (.int .u64 247)), none, []⟩])
     (.cond (.t 7)
      (.seq
       (.reg [] [
         ⟨(some 8), .mv (.t 0), none, []⟩,
         ⟨(some 9), .conv .u8 (.t 8), none, []⟩,
         ⟨(some 10), .lit 0 ty_uint8 1 1 [(.int .u8 0)] [(0, (.t 9))], none, []⟩,
         ⟨(some 2), .mv (.t 10), none, []⟩])
       (.ret i_coder_Number_r))
      .skip))
    (.seq
     (.reg [] [
       ⟨(some 3), .mv (.k (.int .i64 1)), none, []⟩])
     (.seq
      (.block 0 i_coder_Number_j0
       (.loop i_coder_Number_k0 i_coder_Number_b0))
      (.seq
       (.reg [] [
         ⟨(some 22), .mv (.t 3), none, []⟩,
         ⟨(some 23), .bin .plain .add (.k (.int .i64 247)) (.t 22), none, []⟩,
         ⟨(some 24), .conv .u8 (.t 23), none, []⟩,
         ⟨(some 25), .lit 0 ty_uint8 1 1 [(.int .u8 0)] [(0, (.t 24))], none, []⟩,
         ⟨(some 4), .mv (.t 25), none, []⟩])
       (.seq
        (.seq
         (.reg [] [
           ⟨(some 26), .mv (.t 3), none, []⟩,
           ⟨(some 27), .mv (.k (.int .i64 0)), none, []⟩])
         (.block 2 i_coder_Number_j2
          (.loop i_coder_Number_k1 i_coder_Number_b1)))
        (.seq
         (.reg [] [
           ⟨(some 42), .mv (.t 4), none, []⟩,
           ⟨(some 2), .mv (.t 42), none, []⟩])
         (.ret i_coder_Number_r)))))))),
  [.tmp 2], [true], false, []⟩

def i_ref02_Number_r : List Bool := [false, false, true, false, false, false, false, false, false, false, false, false, false, false, false, false, false, false, false, false, false, false, false, false, false, false]
def i_ref02_Number_j1 : List Bool := [true, false, false, true, false, false, false, false, false, false, false, false, false, false, false, false, false, false, false, false, false, false, false, false, false, false]
def i_ref02_Number_k0 : List Bool := [true, false, false, true, false, false, false, false, false, false, false, false, false, false, false, false, false, false, false, false, false, false, false, false, false, false]
def i_ref02_Number_j0 : List Bool := [false, false, false, true, false, false, false, false, false, false, false, false, false, false, false, false, false, false, false, false, false, false, false, false, false, false]
abbrev s_ref02_Number_K0 (t0 t3 : AV) (h : Heap) : St := ⟨[t0, .undef, .undef, t3, .undef, .undef, .undef, .undef, .undef, .undef, .undef, .undef, .undef, .undef, .undef, .undef, .undef, .undef, .undef, .undef, .undef, .undef, .undef, .undef, .undef, .undef], h⟩
def i_ref02_Number_b0 : IR :=
  (.seq
   (.seq
    (.reg [] [
      ⟨(some 9), .mv (.t 0), none, []⟩,
      ⟨(some 10), .bin .plain .gtr (.t 9) (.k (.int .u64 0)), none, []⟩])
    (.cond (.t 10)
     .skip
     (.exit 0 i_ref02_Number_j0)))
   (.block 1 i_ref02_Number_j1
    (.seq
     (.reg [] [
       ⟨(some 11), .mv (.t 0), none, []⟩,
       ⟨(some 12), .bin .plain .rem (.t 11) (.k (.int .u64 256)), none, []⟩,
       ⟨(some 13), .conv .u8 (.t 12), none, []⟩,
       ⟨(some 14), .lit 1 ty_uint8 1 1 [(.int .u8 0)] [(0, (.t 13))], none, []⟩,
       ⟨(some 15), .cn (.t 3), none, []⟩,
       ⟨(some 16), .app 1 ty_uint8 1 1 (.t 14) (.t 15), none, []⟩,
       ⟨(some 3), .cn (.t 16), none, [16]⟩])
     (.reg [] [
       ⟨(some 17), .mv (.t 0), none, []⟩,
       ⟨(some 18), .bin .plain .quo (.t 17) (.k (.int .u64 256)), none, []⟩,
       ⟨(some 0), .mv (.t 18), none, []⟩]))))

abbrev s_ref02_Number_J0 (t3 : AV) (h : Heap) : St := ⟨[.undef, .undef, .undef, t3, .undef, .undef, .undef, .undef, .undef, .undef, .undef, .undef, .undef, .undef, .undef, .undef, .undef, .undef, .undef, .undef, .undef, .undef, .undef, .undef, .undef, .undef], h⟩
/-- heartwood/heartwoodref02.Number -/
def i_ref02_Number : Ev.Fn := ⟨1, 26, 2,
  (.seq
   (.reg [] [
     ⟨(some 2), .mv (.k (.slice none 0 0)), none, []⟩])
   (.seq
    (.seq
     (.reg [] [
       ⟨(some 4), .mv (.t 0), none, []⟩,
       ⟨(some 5), .bin .plain .lss (.t 4) (.k (.int .u64 248)), none, []⟩])
     (.cond (.t 5)
      (.seq
       (.reg [] [
         ⟨(some 6), .mv (.t 0), none, []⟩,
         ⟨(some 7), .conv .u8 (.t 6), none, []⟩,
         ⟨(some 8), .lit 0 ty_uint8 1 1 [(.int .u8 0)] [(0, (.t 7))], none, []⟩,
         ⟨(some 2), .mv (.t 8), none, []⟩])
       (.ret i_ref02_Number_r))
      .skip))
    (.seq
     (.reg [] [
       ⟨(some 3), .cn (.k (.slice none 0 0)), none, []⟩])
     (.seq
      (.block 0 i_ref02_Number_j0
       (.loop i_ref02_Number_k0 i_ref02_Number_b0))
      (.seq
       (.reg [] [
         ⟨(some 19), .cn (.t 3), none, []⟩,
         ⟨(some 20), .len false (.t 19), none, []⟩,
         ⟨(some 21), .bin .plain .add (.k (.int .i64 247)) (.t 20), none, []⟩,
         ⟨(some 22), .conv .u8 (.t 21), none, []⟩,
         ⟨(some 23), .lit 0 ty_uint8 1 1 [(.int .u8 0)] [(0, (.t 22))], none, []⟩,
         ⟨(some 24), .cn (.t 3), none, []⟩,
         ⟨(some 25), .app 0 ty_uint8 1 1 (.t 23) (.t 24), none, []⟩,
         ⟨(some 2), .mv (.t 25), none, []⟩])
       (.ret i_ref02_Number_r)))))),
  [.tmp 2], [true], false, []⟩

def i_law02_CoderBytes_r : List Bool := [false, false, true, false, false, false, false, false, false, false, false, false, false, false, false, false, false]
/-- heartwood/heartwoodlaw02.CoderBytes -/
def i_law02_CoderBytes : Ev.Fn := ⟨1, 17, 1,
  (.seq
   (.reg [] [
     ⟨(some 2), .mv (.k (.bool false)), none, []⟩])
   (.seq
    (.reg [] [
      ⟨(some 3), .lit 0 ty_uint8 1 1 [(.int .u8 0)] [(0, (.k (.int .u8 97)))], none, []⟩,
      ⟨(some 4), .markb (.t 3), none, []⟩,
      ⟨(some 5), .qcall n_coder_Bytes [(.t 4)] [], none, []⟩,
      ⟨(some 6), .b2s (.t 5), none, []⟩,
      ⟨(some 7), .bin .plain .eql (.t 6) (.k (.string ⟨#[1, 97]⟩)), none, []⟩,
      ⟨(some 8), .mv (.t 7), none, []⟩,
      ⟨(some 9), .cn (.t 0), (some (8, true)), []⟩,
      ⟨(some 10), .qcall n_coder_Bytes [(.t 9)] [], (some (8, true)), []⟩,
      ⟨(some 11), .b2s (.t 10), (some (8, true)), []⟩,
      ⟨(some 12), .cn (.t 0), (some (8, true)), []⟩,
      ⟨(some 13), .qcall n_ref02_Bytes [(.t 12)] [], (some (8, true)), []⟩,
      ⟨(some 14), .b2s (.t 13), (some (8, true)), []⟩,
      ⟨(some 15), .bin .plain .eql (.t 11) (.t 14), (some (8, true)), []⟩,
      ⟨(some 16), .pick (.t 8) (.t 15) (.k (.bool false)), none, []⟩,
      ⟨(some 2), .mv (.t 16), none, []⟩])
    (.ret i_law02_CoderBytes_r))),
  [.tmp 2], [], false, []⟩

def i_coder_Bytes_r : List Bool := [false, false, true, false, false, false, false, false, false]
/-- heartwood/coder.Bytes -/
def i_coder_Bytes : Ev.Fn := ⟨1, 9, 2,
  (.seq
   (.reg [] [
     ⟨(some 2), .cn (.k (.slice none 0 0)), none, []⟩])
   (.seq
    (.reg [] [
      ⟨(some 3), .cn (.t 0), none, []⟩,
      ⟨(some 4), .len false (.t 3), none, []⟩,
      ⟨(some 5), .conv .u64 (.t 4), none, []⟩,
      ⟨(some 6), .qcall n_coder_Number [(.t 5)] [0], none, []⟩,
      ⟨(some 7), .cn (.t 0), none, []⟩,
      ⟨(some 8), .app 1 ty_uint8 1 1 (.t 6) (.t 7), none, []⟩,
      ⟨(some 2), .cn (.t 8), none, [8]⟩])
    (.ret i_coder_Bytes_r))),
  [.tmp 2], [], false, []⟩

def i_ref02_Bytes_r : List Bool := [false, false, true, false, false, false, false, false, false]
/-- heartwood/heartwoodref02.Bytes -/
def i_ref02_Bytes : Ev.Fn := ⟨1, 9, 2,
  (.seq
   (.reg [] [
     ⟨(some 2), .cn (.k (.slice none 0 0)), none, []⟩])
   (.seq
    (.reg [] [
      ⟨(some 3), .cn (.t 0), none, []⟩,
      ⟨(some 4), .len false (.t 3), none, []⟩,
      ⟨(some 5), .conv .u64 (.t 4), none, []⟩,
      ⟨(some 6), .qcall n_ref02_Number [(.t 5)] [0], none, []⟩,
      ⟨(some 7), .cn (.t 0), none, []⟩,
      ⟨(some 8), .app 1 ty_uint8 1 1 (.t 6) (.t 7), none, []⟩,
      ⟨(some 2), .cn (.t 8), none, [8]⟩])
    (.ret i_ref02_Bytes_r))),
  [.tmp 2], [], false, []⟩

def i_law01_ShaWords_r : List Bool := [false, false, true, false, false, false, false, false, false, false, false, false, false, false, false, false, false, false, false, false, false, false, false, false, false, false, false, false, false, false, false, false, false, false, false, false, false, false, false, false, false, false, false, false, false, false, false, false, false, false, false, false, false, false, false, false, false, false, false]
def i_law01_ShaWords_j1 : List Bool := [false, false, false, false, false, true, false, true, true, false, false, false, false, false, false, false, false, false, false, false, false, false, false, false, false, false, false, false, false, false, false, false, false, false, false, false, false, false, false, false, false, false, false, false, false, false, false, false, false, false, false, false, false, false, false, false, false, false, false]
def i_law01_ShaWords_k0 : List Bool := [false, false, false, false, false, true, false, true, true, false, false, false, false, false, false, false, false, false, false, false, false, false, false, false, false, false, false, false, false, false, false, false, false, false, false, false, false, false, false, false, false, false, false, false, false, false, false, false, false, false, false, false, false, false, false, false, false, false, false]
def i_law01_ShaWords_j0 : List Bool := [false, false, false, false, false, false, false, false, false, false, false, false, false, false, false, false, false, false, false, false, false, false, false, false, false, false, false, false, false, false, false, false, false, false, false, false, false, false, false, false, false, false, false, false, false, false, false, false, false, false, false, false, false, false, false, false, false, false, false]
abbrev s_law01_ShaWords_K0 (t5 t7 t8 : AV) (h : Heap) : St := ⟨[.undef, .undef, .undef, .undef, .undef, t5, .undef, t7, t8, .undef, .undef, .undef, .undef, .undef, .undef, .undef, .undef, .undef, .undef, .undef, .undef, .undef, .undef, .undef, .undef, .undef, .undef, .undef, .undef, .undef, .undef, .undef, .undef, .undef, .undef, .undef, .undef, .undef, .undef, .undef, .undef, .undef, .undef, .undef, .undef, .undef, .undef, .undef, .undef, .undef, .undef, .undef, .undef, .undef, .undef, .undef, .undef, .undef, .undef], h⟩
def i_law01_ShaWords_b0 : IR :=
  (.seq
   (.seq
    (.reg [] [
      ⟨(some 46), .mv (.t 8), none, []⟩,
      ⟨(some 47), .bin .plain .lss (.t 46) (.k (.int .i64 64)), none, []⟩])
    (.cond (.t 47)
     .skip
     (.exit 0 i_law01_ShaWords_j0)))
   (.seq
    (.block 1 i_law01_ShaWords_j1
     (.seq
      (.reg [] [
        ⟨(some 50), .cn (.t 5), none, []⟩,
        ⟨(some 51), .mv (.t 8), none, []⟩,
        ⟨(some 52), .ia 1 (.t 50) (.t 51), none, []⟩,
        ⟨(some 53), .load false 1 (.t 52), none, []⟩,
        ⟨(some 54), .cn (.t 7), none, []⟩,
        ⟨(some 55), .mv (.t 8), none, []⟩,
        ⟨(some 56), .ia 1 (.t 54) (.t 55), none, []⟩,
        ⟨(some 57), .load false 1 (.t 56), none, []⟩,
        ⟨(some 58), .bin .plain .neq (.t 53) (.t 57), none, []⟩])
      (.cond (.t 58)
       (.seq
        (.reg [] [
          ⟨(some 2), .mv (.k (.bool false)), none, []⟩])
        (.ret i_law01_ShaWords_r))
       .skip)))
    (.reg [] [
      ⟨(some 48), .mv (.t 8), none, []⟩,
      ⟨(some 49), .bin .plain .add (.t 48) (.k (.int .i64 1)), none, []⟩,
      ⟨(some 8), .mv (.t 49), none, []⟩])))

abbrev s_law01_ShaWords_J0 (h : Heap) : St := ⟨[.undef, .undef, .undef, .undef, .undef, .undef, .undef, .undef, .undef, .undef, .undef, .undef, .undef, .undef, .undef, .undef, .undef, .undef, .undef, .undef, .undef, .undef, .undef, .undef, .undef, .undef, .undef, .undef, .undef, .undef, .undef, .undef, .undef, .undef, .undef, .undef, .undef, .undef, .undef, .undef, .undef, .undef, .undef, .undef, .undef, .undef, .undef, .undef, .undef, .undef, .undef, .undef, .undef, .undef, .undef, .undef, .undef, .undef, .undef], h⟩
/-- heartwood/heartwoodlaw01.ShaWords -/
def i_law01_ShaWords : Ev.Fn := ⟨1, 59, 1,
  (.seq
   (.reg [] [
     ⟨(some 2), .mv (.k (.bool false)), none, []⟩])
   (.seq
    (.reg [] [
      ⟨(some 10), .make 0 ty_uint8 1 1 [(.int .u8 0)] (.k (.int .i64 64)) (.k (.int .i64 64)), none, []⟩,
      ⟨(some 11), .qcall n_sha_Words [(.t 10)] [], none, [10]⟩,
      ⟨(some 9), .mv (.t 11), none, []⟩,
      ⟨(some 12), .ext 0 (.t 9), none, []⟩,
      ⟨(some 13), .ext 1 (.t 9), none, []⟩,
      ⟨(some 3), .cn (.t 12), none, []⟩,
      ⟨(some 4), .mv (.t 13), none, []⟩])
    (.seq
     (.reg [] [
       ⟨(some 15), .cn (.t 0), none, []⟩,
       ⟨(some 16), .qcall n_sha_Words [(.t 15)] [], none, []⟩,
       ⟨(some 14), .mv (.t 16), none, []⟩,
       ⟨(some 17), .ext 0 (.t 14), none, []⟩,
       ⟨(some 18), .ext 1 (.t 14), none, []⟩,
       ⟨(some 5), .cn (.t 17), none, []⟩,
       ⟨(some 6), .mv (.t 18), none, []⟩])
     (.seq
      (.seq
       (.reg [] [
         ⟨(some 19), .cn (.t 3), none, []⟩,
         ⟨(some 20), .len false (.t 19), none, []⟩,
         ⟨(some 21), .bin .plain .neq (.t 20) (.k (.int .i64 64)), none, []⟩,
         ⟨(some 22), .mv (.t 21), none, []⟩,
         ⟨(some 23), .mv (.t 4), (some (22, false)), []⟩,
         ⟨(some 24), .bin (.iface ty_api_Code true) .neq (.t 23) (.k .nilIface), (some (22, false)), []⟩,
         ⟨(some 25), .pick (.t 22) (.k (.bool true)) (.t 24), none, []⟩])
       (.cond (.t 25)
        (.seq
         (.reg [] [
           ⟨(some 2), .mv (.k (.bool false)), none, []⟩])
         (.ret i_law01_ShaWords_r))
        .skip))
      (.seq
       (.seq
        (.reg [] [
          ⟨(some 26), .cn (.t 0), none, []⟩,
          ⟨(some 27), .len false (.t 26), none, []⟩,
          ⟨(some 28), .bin .plain .neq (.t 27) (.k (.int .i64 64)), none, []⟩])
        (.cond (.t 28)
         (.seq
          (.reg [] [
            ⟨(some 29), .mv (.t 6), none, []⟩,
            ⟨(some 30), .mki ty_api_Code (.k (.int .i64 1)), none, []⟩,
            ⟨(some 31), .bin (.iface ty_api_Code false) .eql (.t 29) (.t 30), none, []⟩,
            ⟨(some 32), .mv (.t 31), none, []⟩,
            ⟨(some 33), .cn (.t 5), (some (32, true)), []⟩,
            ⟨(some 34), .len false (.t 33), (some (32, true)), []⟩,
            ⟨(some 35), .bin .plain .eql (.t 34) (.k (.int .i64 0)), (some (32, true)), []⟩,
            ⟨(some 36), .pick (.t 32) (.t 35) (.k (.bool false)), none, []⟩,
            ⟨(some 2), .mv (.t 36), none, []⟩])
          (.ret i_law01_ShaWords_r))
         .skip))
       (.seq
        (.reg [] [
          ⟨(some 37), .cn (.t 0), none, []⟩,
          ⟨(some 38), .qcall n_ref01_Words [(.t 37)] [], none, []⟩,
          ⟨(some 7), .cn (.t 38), none, []⟩])
        (.seq
         (.seq
          (.reg [] [
            ⟨(some 39), .mv (.t 6), none, []⟩,
            ⟨(some 40), .bin (.iface ty_api_Code true) .neq (.t 39) (.k .nilIface), none, []⟩,
            ⟨(some 41), .mv (.t 40), none, []⟩,
            ⟨(some 42), .cn (.t 5), (some (41, false)), []⟩,
            ⟨(some 43), .len false (.t 42), (some (41, false)), []⟩,
            ⟨(some 44), .bin .plain .neq (.t 43) (.k (.int .i64 64)), (some (41, false)), []⟩,
            ⟨(some 45), .pick (.t 41) (.k (.bool true)) (.t 44), none, []⟩])
          (.cond (.t 45)
           (.seq
            (.reg [] [
              ⟨(some 2), .mv (.k (.bool false)), none, []⟩])
            (.ret i_law01_ShaWords_r))
           .skip))
         (.seq
          (.seq
           (.reg [] [
             ⟨(some 8), .mv (.k (.int .i64 0)), none, []⟩])
           (.block 0 i_law01_ShaWords_j0
            (.loop i_law01_ShaWords_k0 i_law01_ShaWords_b0)))
          (.seq
           (.reg [] [
             ⟨(some 2), .mv (.k (.bool true)), none, []⟩])
           (.ret i_law01_ShaWords_r)))))))))),
  [.tmp 2], [], false, []⟩

def i_sha_Words_r : List Bool := [false, false, true, true, false, false, false, false, false, false, false, false, false, false, false, false, false, false, false, false, false, false, false, false, false, false, false, false, false, false, false, false, false, false, false, false, false, false, false, false, false, false, false, false, false, false, false, false, false, false, false, false, false, false, false, false, false, false, false, false, false, false, false, false, false, false, false, false, false, false, false, false, false, false, false, false, false, false, false, false, false, false, false, false, false, false, false]
def i_sha_Words_j1 : List Bool := [false, false, false, false, true, false, false, false, false, false, false, false, false, false, false, false, false, true, true, true, false, false, false, false, false, false, false, false, false, false, false, false, false, false, false, false, false, false, false, false, false, false, false, false, false, false, false, false, false, false, false, false, false, false, false, false, false, false, false, false, false, false, false, false, false, false, false, false, false, false, false, false, false, false, false, false, false, false, false, false, false, false, false, false, false, false, false]
def i_sha_Words_k0 : List Bool := [false, false, false, false, true, false, false, false, false, false, false, false, false, false, false, false, false, true, true, true, false, false, false, false, false, false, false, false, false, false, false, false, false, false, false, false, false, false, false, false, false, false, false, false, false, false, false, false, false, false, false, false, false, false, false, false, false, false, false, false, false, false, false, false, false, false, false, false, false, false, false, false, false, false, false, false, false, false, false, false, false, false, false, false, false, false, false]
def i_sha_Words_j0 : List Bool := [false, false, false, false, true, false, false, false, false, false, false, false, false, false, false, false, false, false, false, false, false, false, false, false, false, false, false, false, false, false, false, false, false, false, false, false, false, false, false, false, false, false, false, false, false, false, false, false, false, false, false, false, false, false, false, false, false, false, false, false, false, false, false, false, false, false, false, false, false, false, false, false, false, false, false, false, false, false, false, false, false, false, false, false, false, false, false]
def i_sha_Words_j3 : List Bool := [false, false, false, false, true, false, false, true, false, false, false, false, false, false, false, false, false, false, false, false, false, false, false, false, false, false, false, false, false, false, false, false, false, false, false, false, false, false, false, false, false, false, false, false, false, false, false, false, false, false, false, false, false, false, false, false, false, false, false, false, false, false, false, false, false, false, false, false, false, false, false, false, false, false, false, false, false, false, false, false, false, false, false, false, false, false, false]
def i_sha_Words_k1 : List Bool := [false, false, false, false, true, false, false, true, false, false, false, false, false, false, false, false, false, false, false, false, false, false, false, false, false, false, false, false, false, false, false, false, false, false, false, false, false, false, false, false, false, false, false, false, false, false, false, false, false, false, false, false, false, false, false, false, false, false, false, false, false, false, false, false, false, false, false, false, false, false, false, false, false, false, false, false, false, false, false, false, false, false, false, false, false, false, false]
def i_sha_Words_j2 : List Bool := [false, false, false, false, true, false, false, false, false, false, false, false, false, false, false, false, false, false, false, false, false, false, false, false, false, false, false, false, false, false, false, false, false, false, false, false, false, false, false, false, false, false, false, false, false, false, false, false, false, false, false, false, false, false, false, false, false, false, false, false, false, false, false, false, false, false, false, false, false, false, false, false, false, false, false, false, false, false, false, false, false, false, false, false, false, false, false]
abbrev s_sha_Words_K0 (t4 t17 t18 t19 : AV) (h : Heap) : St := ⟨[.undef, .undef, .undef, .undef, t4, .undef, .undef, .undef, .undef, .undef, .undef, .undef, .undef, .undef, .undef, .undef, .undef, t17, t18, t19, .undef, .undef, .undef, .undef, .undef, .undef, .undef, .undef, .undef, .undef, .undef, .undef, .undef, .undef, .undef, .undef, .undef, .undef, .undef, .undef, .undef, .undef, .undef, .undef, .undef, .undef, .undef, .undef, .undef, .undef, .undef, .undef, .undef, .undef, .undef, .undef, .undef, .undef, .undef, .undef, .undef, .undef, .undef, .undef, .undef, .undef, .undef, .undef, .undef, .undef, .undef, .undef, .undef, .undef, .undef, .undef, .undef, .undef, .undef, .undef, .undef, .undef, .undef, .undef, .undef, .undef, .undef], h⟩
def i_sha_Words_b0 : IR :=
  (.seq
   (.reg [] [
     ⟨(some 20), .bin .plain .lss (.t 19) (.t 18), none, []⟩])
   (.seq
    (.cond (.t 20)
     .skip
     (.exit 0 i_sha_Words_j0))
    (.seq
     (.block 1 i_sha_Words_j1
      (.seq
       (.reg [] [
         ⟨(some 21), .mv (.t 19), none, []⟩,
         ⟨(some 22), .ia 1 (.t 17) (.t 19), none, []⟩,
         ⟨(some 23), .load false 1 (.t 22), none, []⟩,
         ⟨(some 5), .mv (.t 21), none, []⟩,
         ⟨(some 6), .mv (.t 23), none, []⟩])
       (.reg [] [
         ⟨(some 24), .mv (.t 4), none, []⟩,
         ⟨(some 25), .mv (.t 5), none, []⟩,
         ⟨(some 26), .bin .plain .quo (.t 25) (.k (.int .i64 4)), none, []⟩,
         ⟨(some 27), .cn (.t 4), none, []⟩,
         ⟨(some 28), .mv (.t 5), none, []⟩,
         ⟨(some 29), .bin .plain .quo (.t 28) (.k (.int .i64 4)), none, []⟩,
         ⟨(some 30), .ia 1 (.t 27) (.t 29), none, []⟩,
         ⟨(some 31), .load false 1 (.t 30), none, []⟩,
         ⟨(some 32), .bin .plain .shl (.t 31) (.k (.int .u64 8)), none, []⟩,
         ⟨(some 33), .mv (.t 6), none, []⟩,
         ⟨(some 34), .conv .u32 (.t 33), none, []⟩,
         ⟨(some 35), .bin .plain .or (.t 32) (.t 34), none, []⟩,
         ⟨(some 36), .ia 1 (.t 24) (.t 26), none, []⟩,
         ⟨none, .store 1 (.t 36) (.t 35), none, []⟩])))
     (.reg [] [
       ⟨(some 37), .bin .plain .add (.t 19) (.k (.int .i64 1)), none, []⟩,
       ⟨(some 19), .mv (.t 37), none, []⟩]))))

abbrev s_sha_Words_J0 (t4 : AV) (h : Heap) : St := ⟨[.undef, .undef, .undef, .undef, t4, .undef, .undef, .undef, .undef, .undef, .undef, .undef, .undef, .undef, .undef, .undef, .undef, .undef, .undef, .undef, .undef, .undef, .undef, .undef, .undef, .undef, .undef, .undef, .undef, .undef, .undef, .undef, .undef, .undef, .undef, .undef, .undef, .undef, .undef, .undef, .undef, .undef, .undef, .undef, .undef, .undef, .undef, .undef, .undef, .undef, .undef, .undef, .undef, .undef, .undef, .undef, .undef, .undef, .undef, .undef, .undef, .undef, .undef, .undef, .undef, .undef, .undef, .undef, .undef, .undef, .undef, .undef, .undef, .undef, .undef, .undef, .undef, .undef, .undef, .undef, .undef, .undef, .undef, .undef, .undef, .undef, .undef], h⟩
abbrev s_sha_Words_K1 (t4 t7 : AV) (h : Heap) : St := ⟨[.undef, .undef, .undef, .undef, t4, .undef, .undef, t7, .undef, .undef, .undef, .undef, .undef, .undef, .undef, .undef, .undef, .undef, .undef, .undef, .undef, .undef, .undef, .undef, .undef, .undef, .undef, .undef, .undef, .undef, .undef, .undef, .undef, .undef, .undef, .undef, .undef, .undef, .undef, .undef, .undef, .undef, .undef, .undef, .undef, .undef, .undef, .undef, .undef, .undef, .undef, .undef, .undef, .undef, .undef, .undef, .undef, .undef, .undef, .undef, .undef, .undef, .undef, .undef, .undef, .undef, .undef, .undef, .undef, .undef, .undef, .undef, .undef, .undef, .undef, .undef, .undef, .undef, .undef, .undef, .undef, .undef, .undef, .undef, .undef, .undef, .undef], h⟩
def i_sha_Words_b1 : IR :=
  (.seq
   (.seq
    (.reg [] [
      ⟨(some 38), .mv (.t 7), none, []⟩,
      ⟨(some 39), .bin .plain .lss (.t 38) (.k (.int .i64 64)), none, []⟩])
    (.cond (.t 39)
     .skip
     (.exit 2 i_sha_Words_j2)))
   (.seq
    (.block 3 i_sha_Words_j3
     (.seq
      (.reg [] [
        ⟨(some 42), .cn (.t 4), none, []⟩,
        ⟨(some 43), .mv (.t 7), none, []⟩,
        ⟨(some 44), .bin .plain .sub (.t 43) (.k (.int .i64 15)), none, []⟩,
        ⟨(some 45), .ia 1 (.t 42) (.t 44), none, []⟩,
        ⟨(some 46), .load false 1 (.t 45), none, []⟩,
        ⟨(some 47), .cn (.t 4), none, []⟩,
        ⟨(some 48), .mv (.t 7), none, []⟩,
        ⟨(some 49), .bin .plain .sub (.t 48) (.k (.int .i64 2)), none, []⟩,
        ⟨(some 50), .ia 1 (.t 47) (.t 49), none, []⟩,
        ⟨(some 51), .load false 1 (.t 50), none, []⟩,
        ⟨(some 8), .mv (.t 46), none, []⟩,
        ⟨(some 9), .mv (.t 51), none, []⟩])
      (.seq
       (.reg [] [
         ⟨(some 52), .mv (.t 8), none, []⟩,
         ⟨(some 53), .qcall n_math_bits_RotateLeft32 [(.t 52), (.k (.int .i64 (-7)))] [], none, []⟩,
         ⟨(some 54), .mv (.t 8), none, []⟩,
         ⟨(some 55), .qcall n_math_bits_RotateLeft32 [(.t 54), (.k (.int .i64 (-18)))] [], none, []⟩,
         ⟨(some 56), .bin .plain .xor (.t 53) (.t 55), none, []⟩,
         ⟨(some 57), .mv (.t 8), none, []⟩,
         ⟨(some 58), .bin .plain .shr (.t 57) (.k (.int .u64 3)), none, []⟩,
         ⟨(some 59), .bin .plain .xor (.t 56) (.t 58), none, []⟩,
         ⟨(some 10), .mv (.t 59), none, []⟩])
       (.seq
        (.reg [] [
          ⟨(some 60), .mv (.t 9), none, []⟩,
          ⟨(some 61), .qcall n_math_bits_RotateLeft32 [(.t 60), (.k (.int .i64 (-17)))] [], none, []⟩,
          ⟨(some 62), .mv (.t 9), none, []⟩,
          ⟨(some 63), .qcall n_math_bits_RotateLeft32 [(.t 62), (.k (.int .i64 (-19)))] [], none, []⟩,
          ⟨(some 64), .bin .plain .xor (.t 61) (.t 63), none, []⟩,
          ⟨(some 65), .mv (.t 9), none, []⟩,
          ⟨(some 66), .bin .plain .shr (.t 65) (.k (.int .u64 10)), none, []⟩,
          ⟨(some 67), .bin .plain .xor (.t 64) (.t 66), none, []⟩,
          ⟨(some 11), .mv (.t 67), none, []⟩])
        (.reg [] [
          ⟨(some 68), .mv (.t 4), none, []⟩,
          ⟨(some 69), .mv (.t 7), none, []⟩,
          ⟨(some 70), .cn (.t 4), none, []⟩,
          ⟨(some 71), .mv (.t 7), none, []⟩,
          ⟨(some 72), .bin .plain .sub (.t 71) (.k (.int .i64 16)), none, []⟩,
          ⟨(some 73), .ia 1 (.t 70) (.t 72), none, []⟩,
          ⟨(some 74), .load false 1 (.t 73), none, []⟩,
          ⟨(some 75), .mv (.t 10), none, []⟩,
          ⟨(some 76), .bin .plain .add (.t 74) (.t 75), none, []⟩,
          ⟨(some 77), .cn (.t 4), none, []⟩,
          ⟨(some 78), .mv (.t 7), none, []⟩,
          ⟨(some 79), .bin .plain .sub (.t 78) (.k (.int .i64 7)), none, []⟩,
          ⟨(some 80), .ia 1 (.t 77) (.t 79), none, []⟩,
          ⟨(some 81), .load false 1 (.t 80), none, []⟩,
          ⟨(some 82), .bin .plain .add (.t 76) (.t 81), none, []⟩,
          ⟨(some 83), .mv (.t 11), none, []⟩,
          ⟨(some 84), .bin .plain .add (.t 82) (.t 83), none, []⟩,
          ⟨(some 85), .ia 1 (.t 68) (.t 69), none, []⟩,
          ⟨none, .store 1 (.t 85) (.t 84), none, []⟩])))))
    (.reg [] [
      ⟨(some 40), .mv (.t 7), none, []⟩,
      ⟨(some 41), .bin .plain .add (.t 40) (.k (.int .i64 1)), none, []⟩,
      ⟨(some 7), .mv (.t 41), none, []⟩])))

abbrev s_sha_Words_J2 (t4 : AV) (h : Heap) : St := ⟨[.undef, .undef, .undef, .undef, t4, .undef, .undef, .undef, .undef, .undef, .undef, .undef, .undef, .undef, .undef, .undef, .undef, .undef, .undef, .undef, .undef, .undef, .undef, .undef, .undef, .undef, .undef, .undef, .undef, .undef, .undef, .undef, .undef, .undef, .undef, .undef, .undef, .undef, .undef, .undef, .undef, .undef, .undef, .undef, .undef, .undef, .undef, .undef, .undef, .undef, .undef, .undef, .undef, .undef, .undef, .undef, .undef, .undef, .undef, .undef, .undef, .undef, .undef, .undef, .undef, .undef, .undef, .undef, .undef, .undef, .undef, .undef, .undef, .undef, .undef, .undef, .undef, .undef, .undef, .undef, .undef, .undef, .undef, .undef, .undef, .undef, .undef], h⟩
/-- heartwood/sha.Words -/
def i_sha_Words : Ev.Fn := ⟨1, 87, 1,
  (.seq
   (.reg [] [
     ⟨(some 2), .cn (.k (.slice none 0 0)), none, []⟩,
     ⟨(some 3), .mv (.k .nilIface), none, []⟩])
   (.seq
    (.seq
     (.reg [] [
       ⟨(some 12), .cn (.t 0), none, []⟩,
       ⟨(some 13), .len false (.t 12), none, []⟩,
       ⟨(some 14), .bin .plain .neq (.t 13) (.k (.int .i64 64)), none, []⟩])
     (.cond (.t 14)
      (.seq
       (.reg [] [
         ⟨(some 15), .mki ty_api_Code (.k (.int .i64 1)), none, []⟩,
         ⟨(some 2), .cn (.k (.slice none 0 0)), none, []⟩,
         ⟨(some 3), .mv (.t 15), none, []⟩])
       (.ret i_sha_Words_r))
      .skip))
    (.seq
     (.reg [] [
       ⟨(some 16), .make 0 ty_uint32 1 4 [(.int .u32 0)] (.k (.int .i64 64)) (.k (.int .i64 64)), none, []⟩,
       ⟨(some 4), .mv (.t 16), none, []⟩])
     (.seq
      (.seq
       (.reg [] [
         ⟨(some 17), .cn (.t 0), none, []⟩,
         ⟨(some 18), .len false (.t 17), none, []⟩,
         ⟨(some 19), .mv (.k (.int .i64 0)), none, []⟩])
       (.block 0 i_sha_Words_j0
        (.loop i_sha_Words_k0 i_sha_Words_b0)))
      (.seq
       (.seq
        (.reg [] [
          ⟨(some 7), .mv (.k (.int .i64 16)), none, []⟩])
        (.block 2 i_sha_Words_j2
         (.loop i_sha_Words_k1 i_sha_Words_b1)))
       (.seq
        (.reg [] [
          ⟨(some 86), .cn (.t 4), none, [4]⟩,
          ⟨(some 2), .cn (.t 86), none, [86]⟩,
          ⟨(some 3), .mv (.k .nilIface), none, []⟩])
        (.ret i_sha_Words_r))))))),
  [.tmp 2, .tmp 3], [], false, []⟩

def i_ref01_Words_r : List Bool := [false, false, true, false, false, false, false, false, false, false, false, false, false, false, false, false, false, false, false, false, false, false, false, false, false, false, false, false, false, false, false, false, false, false, false, false, false, false, false, false, false, false, false, false, false, false, false, false, false, false, false, false, false, false, false, false, false, false, false, false, false, false, false, false, false, false, false, false, false, false, false, false, false, false, false, false, false, false, false, false, false, false, false, false, false, false, false, false, false, false, false, false, false, false, false, false]
def i_ref01_Words_j3 : List Bool := [true, false, false, true, true, true, true, false, false, false, false, false, false, false, false, false, false, false, false, false, false, false, false, false, false, false, false, false, false, false, false, false, false, false, false, false, false, false, false, false, false, false, false, false, false, false, false, false, false, false, false, false, false, false, false, false, false, false, false, false, false, false, false, false, false, false, false, false, false, false, false, false, false, false, false, false, false, false, false, false, false, false, false, false, false, false, false, false, false, false, false, false, false, false, false, false]
def i_ref01_Words_k1 : List Bool := [true, false, false, true, true, true, true, false, false, false, false, false, false, false, false, false, false, false, false, false, false, false, false, false, false, false, false, false, false, false, false, false, false, false, false, false, false, false, false, false, false, false, false, false, false, false, false, false, false, false, false, false, false, false, false, false, false, false, false, false, false, false, false, false, false, false, false, false, false, false, false, false, false, false, false, false, false, false, false, false, false, false, false, false, false, false, false, false, false, false, false, false, false, false, false, false]
def i_ref01_Words_j2 : List Bool := [true, false, false, true, true, true, false, false, false, false, false, false, false, false, false, false, false, false, false, false, false, false, false, false, false, false, false, false, false, false, false, false, false, false, false, false, false, false, false, false, false, false, false, false, false, false, false, false, false, false, false, false, false, false, false, false, false, false, false, false, false, false, false, false, false, false, false, false, false, false, false, false, false, false, false, false, false, false, false, false, false, false, false, false, false, false, false, false, false, false, false, false, false, false, false, false]
def i_ref01_Words_j1 : List Bool := [true, false, false, true, true, false, false, false, false, false, false, false, false, false, false, false, false, false, false, false, false, false, false, false, false, false, false, false, false, false, false, false, false, false, false, false, false, false, false, false, false, false, false, false, false, false, false, false, false, false, false, false, false, false, false, false, false, false, false, false, false, false, false, false, false, false, false, false, false, false, false, false, false, false, false, false, false, false, false, false, false, false, false, false, false, false, false, false, false, false, false, false, false, false, false, false]
def i_ref01_Words_k0 : List Bool := [true, false, false, true, true, false, false, false, false, false, false, false, false, false, false, false, false, false, false, false, false, false, false, false, false, false, false, false, false, false, false, false, false, false, false, false, false, false, false, false, false, false, false, false, false, false, false, false, false, false, false, false, false, false, false, false, false, false, false, false, false, false, false, false, false, false, false, false, false, false, false, false, false, false, false, false, false, false, false, false, false, false, false, false, false, false, false, false, false, false, false, false, false, false, false, false]
def i_ref01_Words_j0 : List Bool := [false, false, false, true, false, false, false, false, false, false, false, false, false, false, false, false, false, false, false, false, false, false, false, false, false, false, false, false, false, false, false, false, false, false, false, false, false, false, false, false, false, false, false, false, false, false, false, false, false, false, false, false, false, false, false, false, false, false, false, false, false, false, false, false, false, false, false, false, false, false, false, false, false, false, false, false, false, false, false, false, false, false, false, false, false, false, false, false, false, false, false, false, false, false, false, false]
def i_ref01_Words_j5 : List Bool := [false, false, false, true, false, false, false, true, false, false, false, false, false, false, false, false, false, false, false, false, false, false, false, false, false, false, false, false, false, false, false, false, false, false, false, false, false, false, false, false, false, false, false, false, false, false, false, false, false, false, false, false, false, false, false, false, false, false, false, false, false, false, false, false, false, false, false, false, false, false, false, false, false, false, false, false, false, false, false, false, false, false, false, false, false, false, false, false, false, false, false, false, false, false, false, false]
def i_ref01_Words_k2 : List Bool := [false, false, false, true, false, false, false, true, false, false, false, false, false, false, false, false, false, false, false, false, false, false, false, false, false, false, false, false, false, false, false, false, false, false, false, false, false, false, false, false, false, false, false, false, false, false, false, false, false, false, false, false, false, false, false, false, false, false, false, false, false, false, false, false, false, false, false, false, false, false, false, false, false, false, false, false, false, false, false, false, false, false, false, false, false, false, false, false, false, false, false, false, false, false, false, false]
def i_ref01_Words_j4 : List Bool := [false, false, false, true, false, false, false, false, false, false, false, false, false, false, false, false, false, false, false, false, false, false, false, false, false, false, false, false, false, false, false, false, false, false, false, false, false, false, false, false, false, false, false, false, false, false, false, false, false, false, false, false, false, false, false, false, false, false, false, false, false, false, false, false, false, false, false, false, false, false, false, false, false, false, false, false, false, false, false, false, false, false, false, false, false, false, false, false, false, false, false, false, false, false, false, false]
abbrev s_ref01_Words_K1 (t0 t3 t4 t5 t6 : AV) (h : Heap) : St := ⟨[t0, .undef, .undef, t3, t4, t5, t6, .undef, .undef, .undef, .undef, .undef, .undef, .undef, .undef, .undef, .undef, .undef, .undef, .undef, .undef, .undef, .undef, .undef, .undef, .undef, .undef, .undef, .undef, .undef, .undef, .undef, .undef, .undef, .undef, .undef, .undef, .undef, .undef, .undef, .undef, .undef, .undef, .undef, .undef, .undef, .undef, .undef, .undef, .undef, .undef, .undef, .undef, .undef, .undef, .undef, .undef, .undef, .undef, .undef, .undef, .undef, .undef, .undef, .undef, .undef, .undef, .undef, .undef, .undef, .undef, .undef, .undef, .undef, .undef, .undef, .undef, .undef, .undef, .undef, .undef, .undef, .undef, .undef, .undef, .undef, .undef, .undef, .undef, .undef, .undef, .undef, .undef, .undef, .undef, .undef], h⟩
def i_ref01_Words_b1 : IR :=
  (.seq
   (.seq
    (.reg [] [
      ⟨(some 14), .mv (.t 6), none, []⟩,
      ⟨(some 15), .bin .plain .lss (.t 14) (.k (.int .i64 4)), none, []⟩])
    (.cond (.t 15)
     .skip
     (.exit 2 i_ref01_Words_j2)))
   (.seq
    (.block 3 i_ref01_Words_j3
     (.reg [] [
       ⟨(some 18), .mv (.t 5), none, []⟩,
       ⟨(some 19), .bin .plain .mul (.k (.int .u32 256)) (.t 18), none, []⟩,
       ⟨(some 20), .cn (.t 0), none, []⟩,
       ⟨(some 21), .mv (.t 4), none, []⟩,
       ⟨(some 22), .bin .plain .mul (.k (.int .i64 4)) (.t 21), none, []⟩,
       ⟨(some 23), .mv (.t 6), none, []⟩,
       ⟨(some 24), .bin .plain .add (.t 22) (.t 23), none, []⟩,
       ⟨(some 25), .ia 1 (.t 20) (.t 24), none, []⟩,
       ⟨(some 26), .load false 1 (.t 25), none, []⟩,
       ⟨(some 27), .conv .u32 (.t 26), none, []⟩,
       ⟨(some 28), .bin .plain .add (.t 19) (.t 27), none, []⟩,
       ⟨(some 5), .mv (.t 28), none, []⟩]))
    (.reg [] [
      ⟨(some 16), .mv (.t 6), none, []⟩,
      ⟨(some 17), .bin .plain .add (.t 16) (.k (.int .i64 1)), none, []⟩,
      ⟨(some 6), .mv (.t 17), none, []⟩])))

abbrev s_ref01_Words_J2 (t0 t3 t4 t5 : AV) (h : Heap) : St := ⟨[t0, .undef, .undef, t3, t4, t5, .undef, .undef, .undef, .undef, .undef, .undef, .undef, .undef, .undef, .undef, .undef, .undef, .undef, .undef, .undef, .undef, .undef, .undef, .undef, .undef, .undef, .undef, .undef, .undef, .undef, .undef, .undef, .undef, .undef, .undef, .undef, .undef, .undef, .undef, .undef, .undef, .undef, .undef, .undef, .undef, .undef, .undef, .undef, .undef, .undef, .undef, .undef, .undef, .undef, .undef, .undef, .undef, .undef, .undef, .undef, .undef, .undef, .undef, .undef, .undef, .undef, .undef, .undef, .undef, .undef, .undef, .undef, .undef, .undef, .undef, .undef, .undef, .undef, .undef, .undef, .undef, .undef, .undef, .undef, .undef, .undef, .undef, .undef, .undef, .undef, .undef, .undef, .undef, .undef, .undef], h⟩
abbrev s_ref01_Words_J1 (t0 t3 t4 : AV) (h : Heap) : St := ⟨[t0, .undef, .undef, t3, t4, .undef, .undef, .undef, .undef, .undef, .undef, .undef, .undef, .undef, .undef, .undef, .undef, .undef, .undef, .undef, .undef, .undef, .undef, .undef, .undef, .undef, .undef, .undef, .undef, .undef, .undef, .undef, .undef, .undef, .undef, .undef, .undef, .undef, .undef, .undef, .undef, .undef, .undef, .undef, .undef, .undef, .undef, .undef, .undef, .undef, .undef, .undef, .undef, .undef, .undef, .undef, .undef, .undef, .undef, .undef, .undef, .undef, .undef, .undef, .undef, .undef, .undef, .undef, .undef, .undef, .undef, .undef, .undef, .undef, .undef, .undef, .undef, .undef, .undef, .undef, .undef, .undef, .undef, .undef, .undef, .undef, .undef, .undef, .undef, .undef, .undef, .undef, .undef, .undef, .undef, .undef], h⟩
abbrev s_ref01_Words_K0 (t0 t3 t4 : AV) (h : Heap) : St := ⟨[t0, .undef, .undef, t3, t4, .undef, .undef, .undef, .undef, .undef, .undef, .undef, .undef, .undef, .undef, .undef, .undef, .undef, .undef, .undef, .undef, .undef, .undef, .undef, .undef, .undef, .undef, .undef, .undef, .undef, .undef, .undef, .undef, .undef, .undef, .undef, .undef, .undef, .undef, .undef, .undef, .undef, .undef, .undef, .undef, .undef, .undef, .undef, .undef, .undef, .undef, .undef, .undef, .undef, .undef, .undef, .undef, .undef, .undef, .undef, .undef, .undef, .undef, .undef, .undef, .undef, .undef, .undef, .undef, .undef, .undef, .undef, .undef, .undef, .undef, .undef, .undef, .undef, .undef, .undef, .undef, .undef, .undef, .undef, .undef, .undef, .undef, .undef, .undef, .undef, .undef, .undef, .undef, .undef, .undef, .undef], h⟩
def i_ref01_Words_b0 : IR :=
  (.seq
   (.seq
    (.reg [] [
      ⟨(some 10), .mv (.t 4), none, []⟩,
      ⟨(some 11), .bin .plain .lss (.t 10) (.k (.int .i64 16)), none, []⟩])
    (.cond (.t 11)
     .skip
     (.exit 0 i_ref01_Words_j0)))
   (.seq
    (.block 1 i_ref01_Words_j1
     (.seq
      (.reg [] [
        ⟨(some 5), .mv (.k (.int .u32 0)), none, []⟩])
      (.seq
       (.seq
        (.reg [] [
          ⟨(some 6), .mv (.k (.int .i64 0)), none, []⟩])
        (.block 2 i_ref01_Words_j2
         (.loop i_ref01_Words_k1 i_ref01_Words_b1)))
       (.reg [] [
         ⟨(some 29), .mv (.t 3), none, []⟩,
         ⟨(some 30), .mv (.t 5), none, []⟩,
         ⟨(some 31), .litd 1 1 [(.int .u32 0)] [(0, (.t 30))], none, []⟩,
         ⟨(some 32), .app 0 ty_uint32 1 4 (.t 29) (.t 31), none, []⟩,
         ⟨(some 3), .mv (.t 32), none, []⟩]))))
    (.reg [] [
      ⟨(some 12), .mv (.t 4), none, []⟩,
      ⟨(some 13), .bin .plain .add (.t 12) (.k (.int .i64 1)), none, []⟩,
      ⟨(some 4), .mv (.t 13), none, []⟩])))

abbrev s_ref01_Words_J0 (t3 : AV) (h : Heap) : St := ⟨[.undef, .undef, .undef, t3, .undef, .undef, .undef, .undef, .undef, .undef, .undef, .undef, .undef, .undef, .undef, .undef, .undef, .undef, .undef, .undef, .undef, .undef, .undef, .undef, .undef, .undef, .undef, .undef, .undef, .undef, .undef, .undef, .undef, .undef, .undef, .undef, .undef, .undef, .undef, .undef, .undef, .undef, .undef, .undef, .undef, .undef, .undef, .undef, .undef, .undef, .undef, .undef, .undef, .undef, .undef, .undef, .undef, .undef, .undef, .undef, .undef, .undef, .undef, .undef, .undef, .undef, .undef, .undef, .undef, .undef, .undef, .undef, .undef, .undef, .undef, .undef, .undef, .undef, .undef, .undef, .undef, .undef, .undef, .undef, .undef, .undef, .undef, .undef, .undef, .undef, .undef, .undef, .undef, .undef, .undef, .undef], h⟩
abbrev s_ref01_Words_K2 (t3 t7 : AV) (h : Heap) : St := ⟨[.undef, .undef, .undef, t3, .undef, .undef, .undef, t7, .undef, .undef, .undef, .undef, .undef, .undef, .undef, .undef, .undef, .undef, .undef, .undef, .undef, .undef, .undef, .undef, .undef, .undef, .undef, .undef, .undef, .undef, .undef, .undef, .undef, .undef, .undef, .undef, .undef, .undef, .undef, .undef, .undef, .undef, .undef, .undef, .undef, .undef, .undef, .undef, .undef, .undef, .undef, .undef, .undef, .undef, .undef, .undef, .undef, .undef, .undef, .undef, .undef, .undef, .undef, .undef, .undef, .undef, .undef, .undef, .undef, .undef, .undef, .undef, .undef, .undef, .undef, .undef, .undef, .undef, .undef, .undef, .undef, .undef, .undef, .undef, .undef, .undef, .undef, .undef, .undef, .undef, .undef, .undef, .undef, .undef, .undef, .undef], h⟩
def i_ref01_Words_b2 : IR :=
  (.seq
   (.seq
    (.reg [] [
      ⟨(some 33), .mv (.t 7), none, []⟩,
      ⟨(some 34), .bin .plain .lss (.t 33) (.k (.int .i64 64)), none, []⟩])
    (.cond (.t 34)
     .skip
     (.exit 4 i_ref01_Words_j4)))
   (.seq
    (.block 5 i_ref01_Words_j5
     (.seq
      (.reg [] [
        ⟨(some 37), .cn (.t 3), none, []⟩,
        ⟨(some 38), .mv (.t 7), none, []⟩,
        ⟨(some 39), .bin .plain .sub (.t 38) (.k (.int .i64 15)), none, []⟩,
        ⟨(some 40), .ia 1 (.t 37) (.t 39), none, []⟩,
        ⟨(some 41), .load false 1 (.t 40), none, []⟩,
        ⟨(some 42), .qcall n_ref01_turn [(.t 41), (.k (.int .i64 7))] [], none, []⟩,
        ⟨(some 43), .cn (.t 3), none, []⟩,
        ⟨(some 44), .mv (.t 7), none, []⟩,
        ⟨(some 45), .bin .plain .sub (.t 44) (.k (.int .i64 15)), none, []⟩,
        ⟨(some 46), .ia 1 (.t 43) (.t 45), none, []⟩,
        ⟨(some 47), .load false 1 (.t 46), none, []⟩,
        ⟨(some 48), .qcall n_ref01_turn [(.t 47), (.k (.int .i64 18))] [], none, []⟩,
        ⟨(some 49), .bin .plain .xor (.t 42) (.t 48), none, []⟩,
        ⟨(some 50), .cn (.t 3), none, []⟩,
        ⟨(some 51), .mv (.t 7), none, []⟩,
        ⟨(some 52), .bin .plain .sub (.t 51) (.k (.int .i64 15)), none, []⟩,
        ⟨(some 53), .ia 1 (.t 50) (.t 52), none, []⟩,
        ⟨(some 54), .load false 1 (.t 53), none, []⟩,
        ⟨(some 55), .bin .plain .shr (.t 54) (.k (.int .u64 3)), none, []⟩,
        ⟨(some 56), .bin .plain .xor (.t 49) (.t 55), none, []⟩,
        ⟨(some 8), .mv (.t 56), none, []⟩])
      (.seq
       (.reg [] [
         ⟨(some 57), .cn (.t 3), none, []⟩,
         ⟨(some 58), .mv (.t 7), none, []⟩,
         ⟨(some 59), .bin .plain .sub (.t 58) (.k (.int .i64 2)), none, []⟩,
         ⟨(some 60), .ia 1 (.t 57) (.t 59), none, []⟩,
         ⟨(some 61), .load false 1 (.t 60), none, []⟩,
         ⟨(some 62), .qcall n_ref01_turn [(.t 61), (.k (.int .i64 17))] [], none, []⟩,
         ⟨(some 63), .cn (.t 3), none, []⟩,
         ⟨(some 64), .mv (.t 7), none, []⟩,
         ⟨(some 65), .bin .plain .sub (.t 64) (.k (.int .i64 2)), none, []⟩,
         ⟨(some 66), .ia 1 (.t 63) (.t 65), none, []⟩,
         ⟨(some 67), .load false 1 (.t 66), none, []⟩,
         ⟨(some 68), .qcall n_ref01_turn [(.t 67), (.k (.int .i64 19))] [], none, []⟩,
         ⟨(some 69), .bin .plain .xor (.t 62) (.t 68), none, []⟩,
         ⟨(some 70), .cn (.t 3), none, []⟩,
         ⟨(some 71), .mv (.t 7), none, []⟩,
         ⟨(some 72), .bin .plain .sub (.t 71) (.k (.int .i64 2)), none, []⟩,
         ⟨(some 73), .ia 1 (.t 70) (.t 72), none, []⟩,
         ⟨(some 74), .load false 1 (.t 73), none, []⟩,
         ⟨(some 75), .bin .plain .shr (.t 74) (.k (.int .u64 10)), none, []⟩,
         ⟨(some 76), .bin .plain .xor (.t 69) (.t 75), none, []⟩,
         ⟨(some 9), .mv (.t 76), none, []⟩])
       (.reg [] [
         ⟨(some 77), .mv (.t 3), none, []⟩,
         ⟨(some 78), .cn (.t 3), none, []⟩,
         ⟨(some 79), .mv (.t 7), none, []⟩,
         ⟨(some 80), .bin .plain .sub (.t 79) (.k (.int .i64 16)), none, []⟩,
         ⟨(some 81), .ia 1 (.t 78) (.t 80), none, []⟩,
         ⟨(some 82), .load false 1 (.t 81), none, []⟩,
         ⟨(some 83), .mv (.t 8), none, []⟩,
         ⟨(some 84), .bin .plain .add (.t 82) (.t 83), none, []⟩,
         ⟨(some 85), .cn (.t 3), none, []⟩,
         ⟨(some 86), .mv (.t 7), none, []⟩,
         ⟨(some 87), .bin .plain .sub (.t 86) (.k (.int .i64 7)), none, []⟩,
         ⟨(some 88), .ia 1 (.t 85) (.t 87), none, []⟩,
         ⟨(some 89), .load false 1 (.t 88), none, []⟩,
         ⟨(some 90), .bin .plain .add (.t 84) (.t 89), none, []⟩,
         ⟨(some 91), .mv (.t 9), none, []⟩,
         ⟨(some 92), .bin .plain .add (.t 90) (.t 91), none, []⟩,
         ⟨(some 93), .litd 1 1 [(.int .u32 0)] [(0, (.t 92))], none, []⟩,
         ⟨(some 94), .app 0 ty_uint32 1 4 (.t 77) (.t 93), none, []⟩,
         ⟨(some 3), .mv (.t 94), none, []⟩]))))
    (.reg [] [
      ⟨(some 35), .mv (.t 7), none, []⟩,
      ⟨(some 36), .bin .plain .add (.t 35) (.k (.int .i64 1)), none, []⟩,
      ⟨(some 7), .mv (.t 36), none, []⟩])))

abbrev s_ref01_Words_J4 (t3 : AV) (h : Heap) : St := ⟨[.undef, .undef, .undef, t3, .undef, .undef, .undef, .undef, .undef, .undef, .undef, .undef, .undef, .undef, .undef, .undef, .undef, .undef, .undef, .undef, .undef, .undef, .undef, .undef, .undef, .undef, .undef, .undef, .undef, .undef, .undef, .undef, .undef, .undef, .undef, .undef, .undef, .undef, .undef, .undef, .undef, .undef, .undef, .undef, .undef, .undef, .undef, .undef, .undef, .undef, .undef, .undef, .undef, .undef, .undef, .undef, .undef, .undef, .undef, .undef, .undef, .undef, .undef, .undef, .undef, .undef, .undef, .undef, .undef, .undef, .undef, .undef, .undef, .undef, .undef, .undef, .undef, .undef, .undef, .undef, .undef, .undef, .undef, .undef, .undef, .undef, .undef, .undef, .undef, .undef, .undef, .undef, .undef, .undef, .undef, .undef], h⟩
/-- heartwood/heartwoodref01.Words -/
def i_ref01_Words : Ev.Fn := ⟨1, 96, 1,
  (.seq
   (.reg [] [
     ⟨(some 2), .cn (.k (.slice none 0 0)), none, []⟩])
   (.seq
    (.reg [] [
      ⟨(some 3), .mv (.k (.slice none 0 0)), none, []⟩])
    (.seq
     (.seq
      (.reg [] [
        ⟨(some 4), .mv (.k (.int .i64 0)), none, []⟩])
      (.block 0 i_ref01_Words_j0
       (.loop i_ref01_Words_k0 i_ref01_Words_b0)))
     (.seq
      (.seq
       (.reg [] [
         ⟨(some 7), .mv (.k (.int .i64 16)), none, []⟩])
       (.block 4 i_ref01_Words_j4
        (.loop i_ref01_Words_k2 i_ref01_Words_b2)))
      (.seq
       (.reg [] [
         ⟨(some 95), .cn (.t 3), none, [3]⟩,
         ⟨(some 2), .cn (.t 95), none, [95]⟩])
       (.ret i_ref01_Words_r)))))),
  [.tmp 2], [], false, []⟩

def i_law02_CoderApart_r : List Bool := [false, false, false, false, false, false, true, false, false, false, false, false, false, false, false, false, false, false, false, false, false, false, false, false, false, false, false, false, false, false, false, false, false, false, false, false, false, false, false, false, false, false, false, false, false, false, false, false, false, false, false, false, false, false, false, false, false]
/-- heartwood/heartwoodlaw02.CoderApart -/
def i_law02_CoderApart : Ev.Fn := ⟨3, 57, 4,
  (.seq
   (.reg [] [
     ⟨(some 6), .mv (.k (.bool false)), none, []⟩])
   (.seq
    (.reg [] [
      ⟨(some 11), .mv (.t 0), none, []⟩,
      ⟨(some 12), .qcall n_coder_Number [(.t 11)] [0], none, []⟩,
      ⟨(some 7), .cn (.t 12), none, [12]⟩])
    (.seq
     (.reg [] [
       ⟨(some 13), .mv (.t 1), none, []⟩,
       ⟨(some 14), .qcall n_coder_Number [(.t 13)] [1], none, []⟩,
       ⟨(some 8), .cn (.t 14), none, [14]⟩])
     (.seq
      (.seq
       (.reg [] [
         ⟨(some 15), .cn (.t 7), none, []⟩,
         ⟨(some 16), .len false (.t 15), none, []⟩,
         ⟨(some 17), .bin .plain .eql (.t 16) (.k (.int .i64 0)), none, []⟩,
         ⟨(some 18), .mv (.t 17), none, []⟩,
         ⟨(some 19), .cn (.t 8), (some (18, false)), []⟩,
         ⟨(some 20), .len false (.t 19), (some (18, false)), []⟩,
         ⟨(some 21), .bin .plain .eql (.t 20) (.k (.int .i64 0)), (some (18, false)), []⟩,
         ⟨(some 22), .pick (.t 18) (.k (.bool true)) (.t 21), none, []⟩])
       (.cond (.t 22)
        (.seq
         (.reg [] [
           ⟨(some 6), .mv (.k (.bool false)), none, []⟩])
         (.ret i_law02_CoderApart_r))
        .skip))
      (.seq
       (.reg [] [
         ⟨(some 23), .cn (.t 7), none, []⟩,
         ⟨(some 24), .len false (.t 23), none, []⟩,
         ⟨(some 25), .cn (.t 8), none, []⟩,
         ⟨(some 26), .len false (.t 25), none, []⟩,
         ⟨(some 27), .bin .plain .leq (.t 24) (.t 26), none, []⟩,
         ⟨(some 28), .mv (.t 27), none, []⟩,
         ⟨(some 29), .cn (.t 8), (some (28, true)), []⟩,
         ⟨(some 30), .cn (.t 7), (some (28, true)), []⟩,
         ⟨(some 31), .len false (.t 30), (some (28, true)), []⟩,
         ⟨(some 32), .slice 1 (.t 29) none (some (.t 31)) none, (some (28, true)), []⟩,
         ⟨(some 33), .b2s (.t 32), (some (28, true)), []⟩,
         ⟨(some 34), .cn (.t 7), (some (28, true)), []⟩,
         ⟨(some 35), .b2s (.t 34), (some (28, true)), []⟩,
         ⟨(some 36), .bin .plain .eql (.t 33) (.t 35), (some (28, true)), []⟩,
         ⟨(some 37), .pick (.t 28) (.t 36) (.k (.bool false)), none, []⟩,
         ⟨(some 9), .mv (.t 37), none, []⟩])
       (.seq
        (.reg [] [
          ⟨(some 38), .lit 2 ty_uint8 1 0 [(.int .u8 0)] [], none, []⟩,
          ⟨(some 39), .cn (.t 7), none, []⟩,
          ⟨(some 40), .app 2 ty_uint8 1 1 (.t 38) (.t 39), none, []⟩,
          ⟨(some 41), .cn (.t 2), none, []⟩,
          ⟨(some 42), .app 2 ty_uint8 1 1 (.t 40) (.t 41), none, []⟩,
          ⟨(some 43), .qcall n_coder_NewReader [(.t 42)] [3], none, [42]⟩,
          ⟨(some 10), .mv (.t 43), none, []⟩])
        (.seq
         (.seq
          (.reg [] [
            ⟨(some 44), .mv (.t 10), none, []⟩,
            ⟨(some 45), .bin .ptr .eql (.t 44) (.k (.pointer none)), none, []⟩])
          (.cond (.t 45)
           (.seq
            (.reg [] [
              ⟨(some 6), .mv (.k (.bool false)), none, []⟩])
            (.ret i_law02_CoderApart_r))
           .skip))
         (.seq
          (.reg [] [
            ⟨(some 46), .mv (.t 9), none, []⟩,
            ⟨(some 47), .mv (.t 1), none, []⟩,
            ⟨(some 48), .mv (.t 0), none, []⟩,
            ⟨(some 49), .bin .plain .eql (.t 47) (.t 48), none, []⟩,
            ⟨(some 50), .bin .bool .eql (.t 46) (.t 49), none, []⟩,
            ⟨(some 51), .mv (.t 50), none, []⟩,
            ⟨(some 52), .mv (.t 10), (some (51, true)), []⟩,
            ⟨(some 53), .call n_coder_Reader_Number [(.t 52)] [], (some (51, true)), []⟩,
            ⟨(some 54), .mv (.t 0), (some (51, true)), []⟩,
            ⟨(some 55), .bin .plain .eql (.t 53) (.t 54), (some (51, true)), []⟩,
            ⟨(some 56), .pick (.t 51) (.t 55) (.k (.bool false)), none, []⟩,
            ⟨(some 6), .mv (.t 56), none, []⟩])
          (.ret i_law02_CoderApart_r))))))))),
  [.tmp 6], [], false, []⟩

def i_coder_NewReader_r : List Bool := [false, false, true, false, false, false, false]
/-- heartwood/coder.NewReader -/
def i_coder_NewReader : Ev.Fn := ⟨1, 7, 1,
  (.seq
   (.reg [] [
     ⟨(some 2), .mv (.k (.pointer none)), none, []⟩])
   (.seq
    (.reg [] [
      ⟨(some 3), .cn (.t 0), none, []⟩,
      ⟨(some 4), .qcall n_slices_Clone_sl_byte_byte [(.t 3)] [], none, []⟩,
      ⟨(some 5), .build [(.slice none 0 0), (.bool false)] [(0, 1, (.t 4))], none, []⟩,
      ⟨(some 6), .box 0 2 (.t 5), none, []⟩,
      ⟨(some 2), .mv (.t 6), none, []⟩])
    (.ret i_coder_NewReader_r))),
  [.tmp 2], [], false, []⟩

def i_slices_Clone_sl_byte_byte_r : List Bool := [false, false, true, false, false, false, false, false]
/-- slices.Clone[[]byte,byte] -/
def i_slices_Clone_sl_byte_byte : Ev.Fn := ⟨1, 8, 1,
  (.seq
   (.reg [] [
     ⟨(some 2), .cn (.k (.slice none 0 0)), none, []⟩])
   (.seq
    (.seq
     (.reg [] [
       ⟨(some 3), .mv (.t 0), none, []⟩,
       ⟨(some 4), .bin .slice .eql (.t 3) (.k (.slice none 0 0)), none, []⟩])
     (.cond (.t 4)
      (.seq
       (.reg [] [
         ⟨(some 2), .cn (.k (.slice none 0 0)), none, []⟩])
       (.ret i_slices_Clone_sl_byte_byte_r))
      .skip))
    (.seq
     (.reg [] [
       ⟨(some 5), .lit 0 ty_uint8 1 0 [(.int .u8 0)] [], none, []⟩,
       ⟨(some 6), .cn (.t 0), none, []⟩,
       ⟨(some 7), .app 0 ty_uint8 1 1 (.t 5) (.t 6), none, []⟩,
       ⟨(some 2), .cn (.t 7), none, [7]⟩])
     (.ret i_slices_Clone_sl_byte_byte_r)))),
  [.tmp 2], [], true, []⟩

def i_coder_Reader_Number_r : List Bool := [false, false, true, false, false, false, false, false, false, false, false, false, false, false, false, false, false, false, false, false, false, false, false, false, false, false, false, false, false, false, false, false, false, false, false, false, false, false, false, false, false, false, false, false, false, false, false, false]
def i_coder_Reader_Number_j1 : List Bool := [true, false, false, false, true, true, false, false, false, false, false, false, false, false, false, false, false, false, false, true, true, true, false, false, false, false, false, false, false, false, false, false, false, false, false, false, false, false, false, false, false, false, false, false, false, false, false, false]
def i_coder_Reader_Number_k0 : List Bool := [true, false, false, false, true, true, false, false, false, false, false, false, false, false, false, false, false, false, false, true, true, true, false, false, false, false, false, false, false, false, false, false, false, false, false, false, false, false, false, false, false, false, false, false, false, false, false, false]
def i_coder_Reader_Number_j0 : List Bool := [true, false, false, false, true, true, false, false, false, false, false, false, false, false, false, false, false, false, false, false, false, false, false, false, false, false, false, false, false, false, false, false, false, false, false, false, false, false, false, false, false, false, false, false, false, false, false, false]
abbrev s_coder_Reader_Number_K0 (t0 t4 t5 t19 t20 t21 : AV) (h : Heap) : St := ⟨[t0, .undef, .undef, .undef, t4, t5, .undef, .undef, .undef, .undef, .undef, .undef, .undef, .undef, .undef, .undef, .undef, .undef, .undef, t19, t20, t21, .undef, .undef, .undef, .undef, .undef, .undef, .undef, .undef, .undef, .undef, .undef, .undef, .undef, .undef, .undef, .undef, .undef, .undef, .undef, .undef, .undef, .undef, .undef, .undef, .undef, .undef], h⟩
def i_coder_Reader_Number_b0 : IR :=
  (.seq
   (.reg [] [
     ⟨(some 22), .bin .plain .lss (.t 21) (.t 20), none, []⟩])
   (.seq
    (.cond (.t 22)
     .skip
     (.exit 0 i_coder_Reader_Number_j0))
    (.seq
     (.block 1 i_coder_Reader_Number_j1
      (.seq
       (.reg [] [
         ⟨(some 23), .ia 1 (.t 19) (.t 21), none, []⟩,
         ⟨(some 24), .load false 1 (.t 23), none, []⟩,
         ⟨(some 7), .mv (.t 24), none, []⟩])
       (.reg [] [
         ⟨(some 25), .mv (.t 5), none, []⟩,
         ⟨(some 26), .bin .plain .shl (.t 25) (.k (.int .u64 8)), none, []⟩,
         ⟨(some 27), .mv (.t 7), none, []⟩,
         ⟨(some 28), .conv .u64 (.t 27), none, []⟩,
         ⟨(some 29), .bin .plain .or (.t 26) (.t 28), none, []⟩,
         ⟨(some 5), .mv (.t 29), none, []⟩])))
     (.reg [] [
       ⟨(some 30), .bin .plain .add (.t 21) (.k (.int .i64 1)), none, []⟩,
       ⟨(some 21), .mv (.t 30), none, []⟩]))))

abbrev s_coder_Reader_Number_J0 (t0 t4 t5 : AV) (h : Heap) : St := ⟨[t0, .undef, .undef, .undef, t4, t5, .undef, .undef, .undef, .undef, .undef, .undef, .undef, .undef, .undef, .undef, .undef, .undef, .undef, .undef, .undef, .undef, .undef, .undef, .undef, .undef, .undef, .undef, .undef, .undef, .undef, .undef, .undef, .undef, .undef, .undef, .undef, .undef, .undef, .undef, .undef, .undef, .undef, .undef, .undef, .undef, .undef, .undef], h⟩
/-- (*heartwood/coder.Reader).Number -/
def i_coder_Reader_Number : Ev.Fn := ⟨1, 48, 0,
  (.seq
   (.reg [] [
     ⟨(some 2), .mv (.k (.int .u64 0)), none, []⟩])
   (.seq
    (.reg [] [
      ⟨(some 8), .mv (.t 0), none, []⟩,
      ⟨(some 9), .call n_coder_Reader_Byte [(.t 8)] [], none, []⟩,
      ⟨(some 3), .mv (.t 9), none, []⟩])
    (.seq
     (.seq
      (.reg [] [
        ⟨(some 10), .mv (.t 3), none, []⟩,
        ⟨(some 11), .bin .plain .leq (.t 10) (.k (.int .u8 247)), none, []⟩])
      (.cond (.t 11)
       (.seq
        (.reg [] [
          ⟨(some 12), .mv (.t 3), none, []⟩,
          ⟨(some 13), .conv .u64 (.t 12), none, []⟩,
          ⟨(some 2), .mv (.t 13), none, []⟩])
        (.ret i_coder_Reader_Number_r))
       .skip))
     (.seq
      (.reg [] [
        ⟨(some 14), .mv (.t 0), none, []⟩,
        ⟨(some 15), .mv (.t 3), none, []⟩,
        ⟨(some 16), .conv .i64 (.t 15), none, []⟩,
        ⟨(some 17), .bin .plain .sub (.t 16) (.k (.int .i64 247)), none, []⟩,
        ⟨(some 18), .call n_coder_Reader_take [(.t 14), (.t 17)] [], none, []⟩,
        ⟨(some 4), .cn (.t 18), none, []⟩])
      (.seq
       (.reg [] [
         ⟨(some 5), .mv (.k (.int .u64 0)), none, []⟩])
       (.seq
        (.seq
         (.reg [] [
           ⟨(some 19), .cn (.t 4), none, []⟩,
           ⟨(some 20), .len false (.t 19), none, []⟩,
           ⟨(some 21), .mv (.k (.int .i64 0)), none, []⟩])
         (.block 0 i_coder_Reader_Number_j0
          (.loop i_coder_Reader_Number_k0 i_coder_Reader_Number_b0)))
        (.seq
         (.seq
          (.reg [] [
            ⟨(some 31), .cn (.t 4), none, []⟩,
            ⟨(some 32), .len false (.t 31), none, []⟩,
            ⟨(some 33), .bin .plain .eql (.t 32) (.k (.int .i64 0)), none, []⟩,
            ⟨(some 34), .mv (.t 33), none, []⟩,
            ⟨(some 35), .cn (.t 4), (some (34, false)), []⟩,
            ⟨(some 36), .ia 1 (.t 35) (.k (.int .i64 0)), (some (34, false)), []⟩,
            ⟨(some 37), .load false 1 (.t 36), (some (34, false)), []⟩,
            ⟨(some 38), .bin .plain .eql (.t 37) (.k (.int .u8 0)), (some (34, false)), []⟩,
            ⟨(some 39), .pick (.t 34) (.k (.bool true)) (.t 38), none, []⟩,
            ⟨(some 40), .mv (.t 39), none, []⟩,
            ⟨(some 41), .mv (.t 5), (some (40, false)), []⟩,
            ⟨(some 42), .bin .plain .leq (.t 41) (.k (.int .u64 247)), (some (40, false)), []⟩,
            ⟨(some 43), .pick (.t 40) (.k (.bool true)) (.t 42), none, []⟩])
          (.cond (.t 43)
           (.seq
            (.reg [] [
              ⟨(some 44), .mv (.t 0), none, []⟩,
              ⟨(some 45), .nilc (.t 44), none, []⟩,
              ⟨(some 46), .fa 1 (.t 45), none, []⟩,
              ⟨none, .store 1 (.t 46) (.k (.bool true)), none, []⟩])
            (.seq
             (.reg [] [
               ⟨(some 2), .mv (.k (.int .u64 0)), none, []⟩])
             (.ret i_coder_Reader_Number_r)))
           .skip))
         (.seq
          (.reg [] [
            ⟨(some 47), .mv (.t 5), none, []⟩,
            ⟨(some 2), .mv (.t 47), none, []⟩])
          (.ret i_coder_Reader_Number_r))))))))),
  [.tmp 2], [], false, []⟩

def i_coder_Reader_Byte_r : List Bool := [false, false, true, false, false, false, false, false, false, false, false, false]
/-- (*heartwood/coder.Reader).Byte -/
def i_coder_Reader_Byte : Ev.Fn := ⟨1, 12, 0,
  (.seq
   (.reg [] [
     ⟨(some 2), .mv (.k (.int .u8 0)), none, []⟩])
   (.seq
    (.reg [] [
      ⟨(some 4), .mv (.t 0), none, []⟩,
      ⟨(some 5), .call n_coder_Reader_take [(.t 4), (.k (.int .i64 1))] [], none, []⟩,
      ⟨(some 3), .cn (.t 5), none, []⟩])
    (.seq
     (.seq
      (.reg [] [
        ⟨(some 6), .cn (.t 3), none, []⟩,
        ⟨(some 7), .len false (.t 6), none, []⟩,
        ⟨(some 8), .bin .plain .eql (.t 7) (.k (.int .i64 0)), none, []⟩])
      (.cond (.t 8)
       (.seq
        (.reg [] [
          ⟨(some 2), .mv (.k (.int .u8 0)), none, []⟩])
        (.ret i_coder_Reader_Byte_r))
       .skip))
     (.seq
      (.reg [] [
        ⟨(some 9), .cn (.t 3), none, []⟩,
        ⟨(some 10), .ia 1 (.t 9) (.k (.int .i64 0)), none, []⟩,
        ⟨(some 11), .load false 1 (.t 10), none, []⟩,
        ⟨(some 2), .mv (.t 11), none, []⟩])
      (.ret i_coder_Reader_Byte_r))))),
  [.tmp 2], [], false, []⟩

def i_coder_Reader_take_r : List Bool := [false, false, false, false, true, false, false, false, false, false, false, false, false, false, false, false, false, false, false, false, false, false, false, false, false, false, false, false, false, false, false, false, false, false, false, false, false, false, false]
/-- (*heartwood/coder.Reader).take -/
def i_coder_Reader_take : Ev.Fn := ⟨2, 39, 0,
  (.seq
   (.reg [] [
     ⟨(some 4), .cn (.k (.slice none 0 0)), none, []⟩])
   (.seq
    (.seq
     (.reg [] [
       ⟨(some 6), .mv (.t 0), none, []⟩,
       ⟨(some 7), .nilc (.t 6), none, []⟩,
       ⟨(some 8), .fa 1 (.t 7), none, []⟩,
       ⟨(some 9), .load false 1 (.t 8), none, []⟩,
       ⟨(some 10), .mv (.t 9), none, []⟩,
       ⟨(some 11), .mv (.t 1), (some (10, false)), []⟩,
       ⟨(some 12), .mv (.t 0), (some (10, false)), []⟩,
       ⟨(some 13), .nilc (.t 12), (some (10, false)), []⟩,
       ⟨(some 14), .fa 0 (.t 13), (some (10, false)), []⟩,
       ⟨(some 15), .load false 1 (.t 14), (some (10, false)), []⟩,
       ⟨(some 16), .len false (.t 15), (some (10, false)), []⟩,
       ⟨(some 17), .bin .plain .gtr (.t 11) (.t 16), (some (10, false)), []⟩,
       ⟨(some 18), .pick (.t 10) (.k (.bool true)) (.t 17), none, []⟩])
     (.cond (.t 18)
      (.seq
       (.reg [] [
         ⟨(some 19), .mv (.t 0), none, []⟩,
         ⟨(some 20), .nilc (.t 19), none, []⟩,
         ⟨(some 21), .fa 1 (.t 20), none, []⟩,
         ⟨none, .store 1 (.t 21) (.k (.bool true)), none, []⟩])
       (.seq
        (.reg [] [
          ⟨(some 4), .cn (.k (.slice none 0 0)), none, []⟩])
        (.ret i_coder_Reader_take_r)))
      .skip))
    (.seq
     (.reg [] [
       ⟨(some 22), .mv (.t 0), none, []⟩,
       ⟨(some 23), .nilc (.t 22), none, []⟩,
       ⟨(some 24), .fa 0 (.t 23), none, []⟩,
       ⟨(some 25), .load false 1 (.t 24), none, []⟩,
       ⟨(some 26), .mv (.t 1), none, []⟩,
       ⟨(some 27), .mv (.t 1), none, []⟩,
       ⟨(some 28), .slice 1 (.t 25) none (some (.t 26)) (some (.t 27)), none, [25]⟩,
       ⟨(some 5), .cn (.t 28), none, []⟩])
     (.seq
      (.reg [] [
        ⟨(some 29), .mv (.t 0), none, []⟩,
        ⟨(some 30), .mv (.t 0), none, []⟩,
        ⟨(some 31), .nilc (.t 30), none, []⟩,
        ⟨(some 32), .fa 0 (.t 31), none, []⟩,
        ⟨(some 33), .load false 1 (.t 32), none, []⟩,
        ⟨(some 34), .mv (.t 1), none, []⟩,
        ⟨(some 35), .slice 1 (.t 33) (some (.t 34)) none none, none, [33]⟩,
        ⟨(some 36), .nilc (.t 29), none, []⟩,
        ⟨(some 37), .fa 0 (.t 36), none, []⟩,
        ⟨none, .store 1 (.t 37) (.t 35), none, []⟩])
      (.seq
       (.reg [] [
         ⟨(some 38), .cn (.t 5), none, []⟩,
         ⟨(some 4), .cn (.t 38), none, []⟩])
       (.ret i_coder_Reader_take_r)))))),
  [.tmp 4], [], false, []⟩

def i_law03_DigestPreimages_r : List Bool := [false, false, false, false, false, false, false, false, true, false, false, false, false, false, false, false, false, false, false, false, false, false, false, false, false, false, false, false, false, false, false, false, false, false, false, false, false, false, false, false, false, false, false, false, false, false, false, false, false, false, false, false, false, false, false, false, false, false, false, false, false, false, false, false, false, false, false, false, false, false, false, false, false, false, false, false, false, false, false, false, false, false, false, false, false, false, false, false, false, false, false, false, false, false, false, false, false, false, false, false, false, false, false, false, false, false, false, false, false, false, false, false, false, false, false, false, false, false, false, false, false, false, false, false, false, false, false, false]
/-- heartwood/heartwoodlaw03.DigestPreimages -/
def i_law03_DigestPreimages : Ev.Fn := ⟨4, 128, 0,
  (.seq
   (.reg [] [
     ⟨(some 8), .mv (.k (.bool false)), none, []⟩])
   (.seq
    (.reg [] [
      ⟨(some 18), .qcall n_law03_up [] [], none, []⟩,
      ⟨(some 9), .mv (.t 18), none, []⟩])
    (.seq
     (.reg [] [
       ⟨(some 19), .cn (.t 1), none, []⟩,
       ⟨(some 20), .qcall n_digest_Value [(.t 19)] [], none, []⟩,
       ⟨(some 21), .b2s (.t 20), none, []⟩,
       ⟨(some 22), .cn (.t 1), none, []⟩,
       ⟨(some 23), .qcall n_ref03_Value [(.t 22)] [], none, []⟩,
       ⟨(some 24), .b2s (.t 23), none, []⟩,
       ⟨(some 25), .bin .plain .eql (.t 21) (.t 24), none, []⟩,
       ⟨(some 10), .mv (.t 25), none, []⟩])
     (.seq
      (.reg [] [
        ⟨(some 27), .mv (.t 0), none, []⟩,
        ⟨(some 28), .cn (.t 1), none, []⟩,
        ⟨(some 29), .cn (.t 2), none, []⟩,
        ⟨(some 30), .qcall n_digest_Pair [(.t 27), (.t 28), (.t 29)] [], none, []⟩,
        ⟨(some 26), .mv (.t 30), none, []⟩,
        ⟨(some 31), .ext 0 (.t 26), none, []⟩,
        ⟨(some 32), .ext 1 (.t 26), none, []⟩,
        ⟨(some 11), .cn (.t 31), none, []⟩,
        ⟨(some 12), .mv (.t 32), none, []⟩])
      (.seq
       (.reg [] [
         ⟨(some 34), .mv (.t 0), none, []⟩,
         ⟨(some 35), .cn (.t 1), none, []⟩,
         ⟨(some 36), .cn (.t 2), none, []⟩,
         ⟨(some 37), .cn (.t 3), none, []⟩,
         ⟨(some 38), .qcall n_digest_Node [(.t 34), (.t 35), (.t 36), (.t 37)] [], none, []⟩,
         ⟨(some 33), .mv (.t 38), none, []⟩,
         ⟨(some 39), .ext 0 (.t 33), none, []⟩,
         ⟨(some 40), .ext 1 (.t 33), none, []⟩,
         ⟨(some 13), .cn (.t 39), none, []⟩,
         ⟨(some 14), .mv (.t 40), none, []⟩])
       (.seq
        (.reg [] [
          ⟨(some 41), .mv (.t 0), none, []⟩,
          ⟨(some 42), .qcall n_law03_may [(.t 41)] [], none, []⟩,
          ⟨(some 15), .mv (.t 42), none, []⟩])
        (.seq
         (.reg [] [
           ⟨(some 43), .mv (.t 15), none, []⟩,
           ⟨(some 44), .mv (.t 43), none, []⟩,
           ⟨(some 45), .cn (.t 2), (some (44, true)), []⟩,
           ⟨(some 46), .len false (.t 45), (some (44, true)), []⟩,
           ⟨(some 47), .mv (.t 0), (some (44, true)), []⟩,
           ⟨(some 48), .bin .plain .eql (.t 46) (.t 47), (some (44, true)), []⟩,
           ⟨(some 49), .pick (.t 44) (.t 48) (.k (.bool false)), none, []⟩,
           ⟨(some 16), .mv (.t 49), none, []⟩])
         (.seq
          (.reg [] [
            ⟨(some 50), .mv (.t 16), none, []⟩,
            ⟨(some 51), .mv (.t 50), none, []⟩,
            ⟨(some 52), .cn (.t 1), (some (51, true)), []⟩,
            ⟨(some 53), .len false (.t 52), (some (51, true)), []⟩,
            ⟨(some 54), .mv (.t 0), (some (51, true)), []⟩,
            ⟨(some 55), .bin .plain .eql (.t 53) (.t 54), (some (51, true)), []⟩,
            ⟨(some 56), .pick (.t 51) (.t 55) (.k (.bool false)), none, []⟩,
            ⟨(some 57), .mv (.t 56), none, []⟩,
            ⟨(some 58), .cn (.t 3), (some (57, true)), []⟩,
            ⟨(some 59), .len false (.t 58), (some (57, true)), []⟩,
            ⟨(some 60), .mv (.t 0), (some (57, true)), []⟩,
            ⟨(some 61), .bin .plain .eql (.t 59) (.t 60), (some (57, true)), []⟩,
            ⟨(some 62), .pick (.t 57) (.t 61) (.k (.bool false)), none, []⟩,
            ⟨(some 17), .mv (.t 62), none, []⟩])
          (.seq
           (.seq
            (.reg [] [
              ⟨(some 63), .mv (.t 16), none, []⟩,
              ⟨(some 64), .mv (.t 12), none, []⟩,
              ⟨(some 65), .bin (.iface ty_api_Code true) .eql (.t 64) (.k .nilIface), none, []⟩,
              ⟨(some 66), .bin .bool .neq (.t 63) (.t 65), none, []⟩,
              ⟨(some 67), .mv (.t 66), none, []⟩,
              ⟨(some 68), .mv (.t 16), (some (67, false)), []⟩,
              ⟨(some 69), .un .not (.t 68), (some (67, false)), []⟩,
              ⟨(some 70), .mv (.t 69), (some (67, false)), []⟩,
              ⟨(some 71), .mv (.t 12), (some (70, true)), []⟩,
              ⟨(some 72), .mki ty_api_Code (.k (.int .i64 1)), (some (70, true)), []⟩,
              ⟨(some 73), .bin (.iface ty_api_Code false) .neq (.t 71) (.t 72), (some (70, true)), []⟩,
              ⟨(some 74), .mv (.t 73), (some (70, true)), []⟩,
              ⟨(some 75), .cn (.t 11), (some (74, false)), []⟩,
              ⟨(some 76), .len false (.t 75), (some (74, false)), []⟩,
              ⟨(some 77), .bin .plain .neq (.t 76) (.k (.int .i64 0)), (some (74, false)), []⟩,
              ⟨(some 78), .pick (.t 74) (.k (.bool true)) (.t 77), (some (70, true)), []⟩,
              ⟨(some 79), .pick (.t 70) (.t 78) (.k (.bool false)), (some (67, false)), []⟩,
              ⟨(some 80), .pick (.t 67) (.k (.bool true)) (.t 79), none, []⟩,
              ⟨(some 81), .mv (.t 80), none, []⟩,
              ⟨(some 82), .mv (.t 17), (some (81, false)), []⟩,
              ⟨(some 83), .mv (.t 14), (some (81, false)), []⟩,
              ⟨(some 84), .bin (.iface ty_api_Code true) .eql (.t 83) (.k .nilIface), (some (81, false)), []⟩,
              ⟨(some 85), .bin .bool .neq (.t 82) (.t 84), (some (81, false)), []⟩,
              ⟨(some 86), .pick (.t 81) (.k (.bool true)) (.t 85), none, []⟩,
              ⟨(some 87), .mv (.t 86), none, []⟩,
              ⟨(some 88), .mv (.t 17), (some (87, false)), []⟩,
              ⟨(some 89), .un .not (.t 88), (some (87, false)), []⟩,
              ⟨(some 90), .mv (.t 89), (some (87, false)), []⟩,
              ⟨(some 91), .mv (.t 14), (some (90, true)), []⟩,
              ⟨(some 92), .mki ty_api_Code (.k (.int .i64 1)), (some (90, true)), []⟩,
              ⟨(some 93), .bin (.iface ty_api_Code false) .neq (.t 91) (.t 92), (some (90, true)), []⟩,
              ⟨(some 94), .mv (.t 93), (some (90, true)), []⟩,
              ⟨(some 95), .cn (.t 13), (some (94, false)), []⟩,
              ⟨(some 96), .len false (.t 95), (some (94, false)), []⟩,
              ⟨(some 97), .bin .plain .neq (.t 96) (.k (.int .i64 0)), (some (94, false)), []⟩,
              ⟨(some 98), .pick (.t 94) (.k (.bool true)) (.t 97), (some (90, true)), []⟩,
              ⟨(some 99), .pick (.t 90) (.t 98) (.k (.bool false)), (some (87, false)), []⟩,
              ⟨(some 100), .pick (.t 87) (.k (.bool true)) (.t 99), none, []⟩])
            (.cond (.t 100)
             (.seq
              (.reg [] [
                ⟨(some 8), .mv (.k (.bool false)), none, []⟩])
              (.ret i_law03_DigestPreimages_r))
             .skip))
           (.seq
            (.seq
             (.reg [] [
               ⟨(some 101), .mv (.t 16), none, []⟩,
               ⟨(some 102), .mv (.t 101), none, []⟩,
               ⟨(some 103), .cn (.t 11), (some (102, true)), []⟩,
               ⟨(some 104), .b2s (.t 103), (some (102, true)), []⟩,
               ⟨(some 105), .cn (.t 1), (some (102, true)), []⟩,
               ⟨(some 106), .cn (.t 2), (some (102, true)), []⟩,
               ⟨(some 107), .qcall n_ref03_Pair [(.t 105), (.t 106)] [], (some (102, true)), []⟩,
               ⟨(some 108), .b2s (.t 107), (some (102, true)), []⟩,
               ⟨(some 109), .bin .plain .neq (.t 104) (.t 108), (some (102, true)), []⟩,
               ⟨(some 110), .pick (.t 102) (.t 109) (.k (.bool false)), none, []⟩,
               ⟨(some 111), .mv (.t 110), none, []⟩,
               ⟨(some 112), .mv (.t 17), (some (111, false)), []⟩,
               ⟨(some 113), .mv (.t 112), (some (111, false)), []⟩,
               ⟨(some 114), .cn (.t 13), (some (113, true)), []⟩,
               ⟨(some 115), .b2s (.t 114), (some (113, true)), []⟩,
               ⟨(some 116), .cn (.t 1), (some (113, true)), []⟩,
               ⟨(some 117), .cn (.t 2), (some (113, true)), []⟩,
               ⟨(some 118), .cn (.t 3), (some (113, true)), []⟩,
               ⟨(some 119), .qcall n_ref03_Node [(.t 116), (.t 117), (.t 118)] [], (some (113, true)), []⟩,
               ⟨(some 120), .b2s (.t 119), (some (113, true)), []⟩,
               ⟨(some 121), .bin .plain .neq (.t 115) (.t 120), (some (113, true)), []⟩,
               ⟨(some 122), .pick (.t 113) (.t 121) (.k (.bool false)), (some (111, false)), []⟩,
               ⟨(some 123), .pick (.t 111) (.k (.bool true)) (.t 122), none, []⟩])
             (.cond (.t 123)
              (.seq
               (.reg [] [
                 ⟨(some 8), .mv (.k (.bool false)), none, []⟩])
               (.ret i_law03_DigestPreimages_r))
              .skip))
            (.seq
             (.reg [] [
               ⟨(some 124), .mv (.t 9), none, []⟩,
               ⟨(some 125), .mv (.t 124), none, []⟩,
               ⟨(some 126), .mv (.t 10), (some (125, true)), []⟩,
               ⟨(some 127), .pick (.t 125) (.t 126) (.k (.bool false)), none, []⟩,
               ⟨(some 8), .mv (.t 127), none, []⟩])
             (.ret i_law03_DigestPreimages_r)))))))))))),
  [.tmp 8], [], false, []⟩

def i_law03_up_r : List Bool := [true, false, false, false, false, false, false, false, false, false, false, false, false, false, false, false, false, false, false, false, false, false]
/-- heartwood/heartwoodlaw03.up -/
def i_law03_up : Ev.Fn := ⟨0, 22, 1,
  (.seq
   (.reg [] [
     ⟨(some 0), .mv (.k (.bool false)), none, []⟩])
   (.seq
    (.reg [] [
      ⟨(some 4), .lit 0 ty_uint8 1 1 [(.int .u8 0)] [(0, (.k (.int .u8 97)))], none, []⟩,
      ⟨(some 5), .markb (.t 4), none, []⟩,
      ⟨(some 6), .litd 1 1 [(.int .u8 0)] [(0, (.k (.int .u8 255)))], none, []⟩,
      ⟨(some 7), .qcall n_digest_Pair [(.k (.int .i64 1)), (.t 5), (.t 6)] [], none, []⟩,
      ⟨(some 3), .mv (.t 7), none, []⟩,
      ⟨(some 8), .ext 0 (.t 3), none, []⟩,
      ⟨(some 9), .ext 1 (.t 3), none, []⟩,
      ⟨(some 1), .cn (.t 8), none, []⟩,
      ⟨(some 2), .mv (.t 9), none, []⟩])
    (.seq
     (.reg [] [
       ⟨(some 10), .mv (.t 2), none, []⟩,
       ⟨(some 11), .bin (.iface ty_api_Code true) .eql (.t 10) (.k .nilIface), none, []⟩,
       ⟨(some 12), .mv (.t 11), none, []⟩,
       ⟨(some 13), .cn (.t 1), (some (12, true)), []⟩,
       ⟨(some 14), .b2s (.t 13), (some (12, true)), []⟩,
       ⟨(some 15), .bin .plain .eql (.t 14) (.k (.string ⟨#[1, 1, 97, 255]⟩)), (some (12, true)), []⟩,
       ⟨(some 16), .pick (.t 12) (.t 15) (.k (.bool false)), none, []⟩,
       ⟨(some 17), .mv (.t 16), none, []⟩,
       ⟨(some 18), .qcall n_digest_None [] [], (some (17, true)), []⟩,
       ⟨(some 19), .b2s (.t 18), (some (17, true)), []⟩,
       ⟨(some 20), .bin .plain .eql (.t 19) (.k (.string ⟨#[3]⟩)), (some (17, true)), []⟩,
       ⟨(some 21), .pick (.t 17) (.t 20) (.k (.bool false)), none, []⟩,
       ⟨(some 0), .mv (.t 21), none, []⟩])
     (.ret i_law03_up_r)))),
  [.tmp 0], [], false, []⟩

def i_digest_Pair_r : List Bool := [false, false, false, false, false, false, true, true, false, false, false, false, false, false, false, false, false, false, false, false, false, false, false, false]
/-- heartwood/digest.Pair -/
def i_digest_Pair : Ev.Fn := ⟨3, 24, 0,
  (.seq
   (.reg [] [
     ⟨(some 6), .cn (.k (.slice none 0 0)), none, []⟩,
     ⟨(some 7), .mv (.k .nilIface), none, []⟩])
   (.seq
    (.seq
     (.reg [] [
       ⟨(some 8), .mv (.t 0), none, []⟩,
       ⟨(some 9), .qcall n_digest_width [(.t 8)] [], none, []⟩,
       ⟨(some 10), .un .not (.t 9), none, []⟩,
       ⟨(some 11), .mv (.t 10), none, []⟩,
       ⟨(some 12), .cn (.t 2), (some (11, false)), []⟩,
       ⟨(some 13), .len false (.t 12), (some (11, false)), []⟩,
       ⟨(some 14), .mv (.t 0), (some (11, false)), []⟩,
       ⟨(some 15), .bin .plain .neq (.t 13) (.t 14), (some (11, false)), []⟩,
       ⟨(some 16), .pick (.t 11) (.k (.bool true)) (.t 15), none, []⟩])
     (.cond (.t 16)
      (.seq
       (.reg [] [
         ⟨(some 17), .mki ty_api_Code (.k (.int .i64 1)), none, []⟩,
         ⟨(some 6), .cn (.k (.slice none 0 0)), none, []⟩,
         ⟨(some 7), .mv (.t 17), none, []⟩])
       (.ret i_digest_Pair_r))
      .skip))
    (.seq
     (.reg [] [
       ⟨(some 18), .litd 1 1 [(.int .u8 0)] [(0, (.k (.int .u8 1)))], none, []⟩,
       ⟨(some 19), .cn (.t 1), none, []⟩,
       ⟨(some 20), .qcall n_coder_Bytes [(.t 19)] [], none, []⟩,
       ⟨(some 21), .cn (.t 2), none, []⟩,
       ⟨(some 22), .litd 1 3 [(.slice none 0 0)] [(0, (.t 18)), (1, (.t 20)), (2, (.t 21))], none, []⟩,
       ⟨(some 23), .qcall n_slices_Concat_sl_byte_byte [(.t 22)] [], none, []⟩,
       ⟨(some 6), .cn (.t 23), none, []⟩,
       ⟨(some 7), .mv (.k .nilIface), none, []⟩])
     (.ret i_digest_Pair_r)))),
  [.tmp 6, .tmp 7], [], false, []⟩

def i_digest_width_r : List Bool := [false, false, true, false, false, false, false, false, false]
/-- heartwood/digest.width -/
def i_digest_width : Ev.Fn := ⟨1, 9, 0,
  (.seq
   (.reg [] [
     ⟨(some 2), .mv (.k (.bool false)), none, []⟩])
   (.seq
    (.reg [] [
      ⟨(some 3), .mv (.t 0), none, []⟩,
      ⟨(some 4), .bin .plain .geq (.t 3) (.k (.int .i64 1)), none, []⟩,
      ⟨(some 5), .mv (.t 4), none, []⟩,
      ⟨(some 6), .mv (.t 0), (some (5, true)), []⟩,
      ⟨(some 7), .bin .plain .leq (.t 6) (.k (.int .i64 32)), (some (5, true)), []⟩,
      ⟨(some 8), .pick (.t 5) (.t 7) (.k (.bool false)), none, []⟩,
      ⟨(some 2), .mv (.t 8), none, []⟩])
    (.ret i_digest_width_r))),
  [.tmp 2], [], false, []⟩

def i_slices_Concat_sl_byte_byte_r : List Bool := [false, false, true, false, false, false, false, false, false, false, false, false, false, false, false, false, false, false, false, false, false, false, false, false, false, false, false, false, false, false, false, false, false, false, false, false]
def i_slices_Concat_sl_byte_byte_j1 : List Bool := [true, false, false, true, false, false, false, false, false, true, true, true, false, false, false, false, false, false, false, false, false, false, false, false, false, false, false, false, false, false, false, false, false, false, false, false]
def i_slices_Concat_sl_byte_byte_k0 : List Bool := [true, false, false, true, false, false, false, false, false, true, true, true, false, false, false, false, false, false, false, false, false, false, false, false, false, false, false, false, false, false, false, false, false, false, false, false]
def i_slices_Concat_sl_byte_byte_j0 : List Bool := [true, false, false, true, false, false, false, false, false, false, false, false, false, false, false, false, false, false, false, false, false, false, false, false, false, false, false, false, false, false, false, false, false, false, false, false]
def i_slices_Concat_sl_byte_byte_j3 : List Bool := [false, false, false, false, false, false, true, false, false, false, false, false, false, false, false, false, false, false, false, false, false, false, false, false, false, true, true, true, false, false, false, false, false, false, false, false]
def i_slices_Concat_sl_byte_byte_k1 : List Bool := [false, false, false, false, false, false, true, false, false, false, false, false, false, false, false, false, false, false, false, false, false, false, false, false, false, true, true, true, false, false, false, false, false, false, false, false]
def i_slices_Concat_sl_byte_byte_j2 : List Bool := [false, false, false, false, false, false, true, false, false, false, false, false, false, false, false, false, false, false, false, false, false, false, false, false, false, false, false, false, false, false, false, false, false, false, false, false]
abbrev s_slices_Concat_sl_byte_byte_K0 (t0 t3 t9 t10 t11 : AV) (h : Heap) : St := ⟨[t0, .undef, .undef, t3, .undef, .undef, .undef, .undef, .undef, t9, t10, t11, .undef, .undef, .undef, .undef, .undef, .undef, .undef, .undef, .undef, .undef, .undef, .undef, .undef, .undef, .undef, .undef, .undef, .undef, .undef, .undef, .undef, .undef, .undef, .undef], h⟩
def i_slices_Concat_sl_byte_byte_b0 : IR :=
  (.seq
   (.reg [] [
     ⟨(some 12), .bin .plain .lss (.t 11) (.t 10), none, []⟩])
   (.seq
    (.cond (.t 12)
     .skip
     (.exit 0 i_slices_Concat_sl_byte_byte_j0))
    (.seq
     (.block 1 i_slices_Concat_sl_byte_byte_j1
      (.seq
       (.reg [] [
         ⟨(some 13), .ia 1 (.t 9) (.t 11), none, []⟩,
         ⟨(some 14), .load false 1 (.t 13), none, []⟩,
         ⟨(some 5), .cn (.t 14), none, []⟩])
       (.seq
        (.reg [] [
          ⟨(some 15), .mv (.t 3), none, []⟩,
          ⟨(some 16), .cn (.t 5), none, []⟩,
          ⟨(some 17), .len false (.t 16), none, []⟩,
          ⟨(some 18), .bin .plain .add (.t 15) (.t 17), none, []⟩,
          ⟨(some 3), .mv (.t 18), none, []⟩])
        (.seq
         (.reg [] [
           ⟨(some 19), .mv (.t 3), none, []⟩,
           ⟨(some 20), .bin .plain .lss (.t 19) (.k (.int .i64 0)), none, []⟩])
         (.cond (.t 20)
          (.reg [] [
            ⟨(some 21), .mki ty_string (.k (.string ⟨#[108, 101, 110, 32, 111, 117, 116, 32, 111, 102, 32, 114, 97, 110, 103, 101]⟩)), none, []⟩,
            ⟨none, .trap, none, []⟩])
          .skip)))))
     (.reg [] [
       ⟨(some 22), .bin .plain .add (.t 11) (.k (.int .i64 1)), none, []⟩,
       ⟨(some 11), .mv (.t 22), none, []⟩]))))

abbrev s_slices_Concat_sl_byte_byte_J0 (t0 t3 : AV) (h : Heap) : St := ⟨[t0, .undef, .undef, t3, .undef, .undef, .undef, .undef, .undef, .undef, .undef, .undef, .undef, .undef, .undef, .undef, .undef, .undef, .undef, .undef, .undef, .undef, .undef, .undef, .undef, .undef, .undef, .undef, .undef, .undef, .undef, .undef, .undef, .undef, .undef, .undef], h⟩
abbrev s_slices_Concat_sl_byte_byte_K1 (t6 t25 t26 t27 : AV) (h : Heap) : St := ⟨[.undef, .undef, .undef, .undef, .undef, .undef, t6, .undef, .undef, .undef, .undef, .undef, .undef, .undef, .undef, .undef, .undef, .undef, .undef, .undef, .undef, .undef, .undef, .undef, .undef, t25, t26, t27, .undef, .undef, .undef, .undef, .undef, .undef, .undef, .undef], h⟩
def i_slices_Concat_sl_byte_byte_b1 : IR :=
  (.seq
   (.reg [] [
     ⟨(some 28), .bin .plain .lss (.t 27) (.t 26), none, []⟩])
   (.seq
    (.cond (.t 28)
     .skip
     (.exit 2 i_slices_Concat_sl_byte_byte_j2))
    (.seq
     (.block 3 i_slices_Concat_sl_byte_byte_j3
      (.seq
       (.reg [] [
         ⟨(some 29), .ia 1 (.t 25) (.t 27), none, []⟩,
         ⟨(some 30), .load false 1 (.t 29), none, []⟩,
         ⟨(some 8), .cn (.t 30), none, []⟩])
       (.reg [] [
         ⟨(some 31), .mv (.t 6), none, []⟩,
         ⟨(some 32), .cn (.t 8), none, []⟩,
         ⟨(some 33), .app 1 ty_uint8 1 1 (.t 31) (.t 32), none, []⟩,
         ⟨(some 6), .mv (.t 33), none, []⟩])))
     (.reg [] [
       ⟨(some 34), .bin .plain .add (.t 27) (.k (.int .i64 1)), none, []⟩,
       ⟨(some 27), .mv (.t 34), none, []⟩]))))

abbrev s_slices_Concat_sl_byte_byte_J2 (t6 : AV) (h : Heap) : St := ⟨[.undef, .undef, .undef, .undef, .undef, .undef, t6, .undef, .undef, .undef, .undef, .undef, .undef, .undef, .undef, .undef, .undef, .undef, .undef, .undef, .undef, .undef, .undef, .undef, .undef, .undef, .undef, .undef, .undef, .undef, .undef, .undef, .undef, .undef, .undef, .undef], h⟩
/-- slices.Concat[[]byte,byte] -/
def i_slices_Concat_sl_byte_byte : Ev.Fn := ⟨1, 36, 2,
  (.seq
   (.reg [] [
     ⟨(some 2), .cn (.k (.slice none 0 0)), none, []⟩])
   (.seq
    (.reg [] [
      ⟨(some 3), .mv (.k (.int .i64 0)), none, []⟩])
    (.seq
     (.seq
      (.reg [] [
        ⟨(some 9), .cn (.t 0), none, []⟩,
        ⟨(some 10), .len false (.t 9), none, []⟩,
        ⟨(some 11), .mv (.k (.int .i64 0)), none, []⟩])
      (.block 0 i_slices_Concat_sl_byte_byte_j0
       (.loop i_slices_Concat_sl_byte_byte_k0 i_slices_Concat_sl_byte_byte_b0)))
     (.seq
      (.reg [] [
        ⟨(some 23), .mv (.t 3), none, []⟩,
        ⟨(some 24), .qcall n_slices_Grow_sl_byte_byte [(.k (.slice none 0 0)), (.t 23)] [0], none, []⟩,
        ⟨(some 6), .mv (.t 24), none, []⟩])
      (.seq
       (.seq
        (.reg [] [
          ⟨(some 25), .cn (.t 0), none, []⟩,
          ⟨(some 26), .len false (.t 25), none, []⟩,
          ⟨(some 27), .mv (.k (.int .i64 0)), none, []⟩])
        (.block 2 i_slices_Concat_sl_byte_byte_j2
         (.loop i_slices_Concat_sl_byte_byte_k1 i_slices_Concat_sl_byte_byte_b1)))
       (.seq
        (.reg [] [
          ⟨(some 35), .cn (.t 6), none, [6]⟩,
          ⟨(some 2), .cn (.t 35), none, [35]⟩])
        (.ret i_slices_Concat_sl_byte_byte_r))))))),
  [.tmp 2], [], false, []⟩

def i_slices_Grow_sl_byte_byte_r : List Bool := [false, false, false, false, true, false, false, false, false, false, false, false, false, false, false, false, false, false, false, false, false, false, false, false, false, false, false]
/-- slices.Grow[[]byte,byte] -/
def i_slices_Grow_sl_byte_byte : Ev.Fn := ⟨2, 27, 3,
  (.seq
   (.reg [] [
     ⟨(some 4), .mv (.k (.slice none 0 0)), none, []⟩])
   (.seq
    (.seq
     (.reg [] [
       ⟨(some 5), .mv (.t 1), none, []⟩,
       ⟨(some 6), .bin .plain .lss (.t 5) (.k (.int .i64 0)), none, []⟩])
     (.cond (.t 6)
      (.reg [] [
        ⟨(some 7), .mki ty_string (.k (.string ⟨#[99, 97, 110, 110, 111, 116, 32, 98, 101, 32, 110, 101, 103, 97, 116, 105, 118, 101]⟩)), none, []⟩,
        ⟨none, .trap, none, []⟩])
      .skip))
    (.seq
     (.seq
      (.reg [] [
        ⟨(some 8), .mv (.t 1), none, []⟩,
        ⟨(some 9), .mv (.t 0), none, []⟩,
        ⟨(some 10), .capn (.t 9), none, []⟩,
        ⟨(some 11), .cn (.t 0), none, []⟩,
        ⟨(some 12), .len false (.t 11), none, []⟩,
        ⟨(some 13), .bin .plain .sub (.t 10) (.t 12), none, []⟩,
        ⟨(some 14), .bin .plain .sub (.t 8) (.t 13), none, []⟩,
        ⟨(some 1), .mv (.t 14), none, []⟩])
      (.seq
       (.reg [] [
         ⟨(some 15), .mv (.t 1), none, []⟩,
         ⟨(some 16), .bin .plain .gtr (.t 15) (.k (.int .i64 0)), none, []⟩])
       (.cond (.t 16)
        (.reg [] [
          ⟨(some 17), .mv (.t 0), none, []⟩,
          ⟨(some 18), .mv (.t 0), none, []⟩,
          ⟨(some 19), .capn (.t 18), none, []⟩,
          ⟨(some 20), .trunc 0 (.t 17) (.t 19), none, []⟩,
          ⟨(some 21), .mv (.t 1), none, []⟩,
          ⟨(some 22), .appz 1 ty_uint8 1 1 [(.int .u8 0)] (.t 20) (.t 21), none, []⟩,
          ⟨(some 23), .cn (.t 0), none, [0]⟩,
          ⟨(some 24), .len false (.t 23), none, []⟩,
          ⟨(some 25), .trunc 2 (.t 22) (.t 24), none, []⟩,
          ⟨(some 0), .mv (.t 25), none, []⟩])
        .skip)))
     (.seq
      (.reg [] [
        ⟨(some 26), .mv (.t 0), none, []⟩,
        ⟨(some 4), .mv (.t 26), none, []⟩])
      (.ret i_slices_Grow_sl_byte_byte_r))))),
  [.tmp 4], [true], false, [true, false]⟩

def i_digest_None_r : List Bool := [true, false]
/-- heartwood/digest.None -/
def i_digest_None : Ev.Fn := ⟨0, 2, 0,
  (.seq
   (.reg [] [
     ⟨(some 0), .cn (.k (.slice none 0 0)), none, []⟩])
   (.seq
    (.reg [] [
      ⟨(some 1), .litd 1 1 [(.int .u8 0)] [(0, (.k (.int .u8 3)))], none, []⟩,
      ⟨(some 0), .cn (.t 1), none, []⟩])
    (.ret i_digest_None_r))),
  [.tmp 0], [], false, []⟩

def i_digest_Value_r : List Bool := [false, false, true, false, false, false]
/-- heartwood/digest.Value -/
def i_digest_Value : Ev.Fn := ⟨1, 6, 1,
  (.seq
   (.reg [] [
     ⟨(some 2), .cn (.k (.slice none 0 0)), none, []⟩])
   (.seq
    (.reg [] [
      ⟨(some 3), .lit 0 ty_uint8 1 1 [(.int .u8 0)] [(0, (.k (.int .u8 0)))], none, []⟩,
      ⟨(some 4), .cn (.t 0), none, []⟩,
      ⟨(some 5), .app 0 ty_uint8 1 1 (.t 3) (.t 4), none, []⟩,
      ⟨(some 2), .cn (.t 5), none, [5]⟩])
    (.ret i_digest_Value_r))),
  [.tmp 2], [], false, []⟩

def i_ref03_Value_r : List Bool := [false, false, true, false, false, false]
/-- heartwood/heartwoodref03.Value -/
def i_ref03_Value : Ev.Fn := ⟨1, 6, 1,
  (.seq
   (.reg [] [
     ⟨(some 2), .cn (.k (.slice none 0 0)), none, []⟩])
   (.seq
    (.reg [] [
      ⟨(some 3), .lit 0 ty_uint8 1 1 [(.int .u8 0)] [(0, (.k (.int .u8 0)))], none, []⟩,
      ⟨(some 4), .cn (.t 0), none, []⟩,
      ⟨(some 5), .app 0 ty_uint8 1 1 (.t 3) (.t 4), none, []⟩,
      ⟨(some 2), .cn (.t 5), none, [5]⟩])
    (.ret i_ref03_Value_r))),
  [.tmp 2], [], false, []⟩

def i_digest_Node_r : List Bool := [false, false, false, false, false, false, false, false, true, true, false, false, false, false, false, false, false, false, false, false, false, false, false, false, false, false, false, false, false, false, false, false, false, false, false, false, false, false]
/-- heartwood/digest.Node -/
def i_digest_Node : Ev.Fn := ⟨4, 38, 0,
  (.seq
   (.reg [] [
     ⟨(some 8), .cn (.k (.slice none 0 0)), none, []⟩,
     ⟨(some 9), .mv (.k .nilIface), none, []⟩])
   (.seq
    (.seq
     (.reg [] [
       ⟨(some 10), .mv (.t 0), none, []⟩,
       ⟨(some 11), .qcall n_digest_width [(.t 10)] [], none, []⟩,
       ⟨(some 12), .un .not (.t 11), none, []⟩,
       ⟨(some 13), .mv (.t 12), none, []⟩,
       ⟨(some 14), .cn (.t 1), (some (13, false)), []⟩,
       ⟨(some 15), .len false (.t 14), (some (13, false)), []⟩,
       ⟨(some 16), .mv (.t 0), (some (13, false)), []⟩,
       ⟨(some 17), .bin .plain .neq (.t 15) (.t 16), (some (13, false)), []⟩,
       ⟨(some 18), .pick (.t 13) (.k (.bool true)) (.t 17), none, []⟩,
       ⟨(some 19), .mv (.t 18), none, []⟩,
       ⟨(some 20), .cn (.t 2), (some (19, false)), []⟩,
       ⟨(some 21), .len false (.t 20), (some (19, false)), []⟩,
       ⟨(some 22), .mv (.t 0), (some (19, false)), []⟩,
       ⟨(some 23), .bin .plain .neq (.t 21) (.t 22), (some (19, false)), []⟩,
       ⟨(some 24), .pick (.t 19) (.k (.bool true)) (.t 23), none, []⟩,
       ⟨(some 25), .mv (.t 24), none, []⟩,
       ⟨(some 26), .cn (.t 3), (some (25, false)), []⟩,
       ⟨(some 27), .len false (.t 26), (some (25, false)), []⟩,
       ⟨(some 28), .mv (.t 0), (some (25, false)), []⟩,
       ⟨(some 29), .bin .plain .neq (.t 27) (.t 28), (some (25, false)), []⟩,
       ⟨(some 30), .pick (.t 25) (.k (.bool true)) (.t 29), none, []⟩])
     (.cond (.t 30)
      (.seq
       (.reg [] [
         ⟨(some 31), .mki ty_api_Code (.k (.int .i64 1)), none, []⟩,
         ⟨(some 8), .cn (.k (.slice none 0 0)), none, []⟩,
         ⟨(some 9), .mv (.t 31), none, []⟩])
       (.ret i_digest_Node_r))
      .skip))
    (.seq
     (.reg [] [
       ⟨(some 32), .litd 1 1 [(.int .u8 0)] [(0, (.k (.int .u8 2)))], none, []⟩,
       ⟨(some 33), .cn (.t 1), none, []⟩,
       ⟨(some 34), .cn (.t 2), none, []⟩,
       ⟨(some 35), .cn (.t 3), none, []⟩,
       ⟨(some 36), .litd 1 4 [(.slice none 0 0)] [(0, (.t 32)), (1, (.t 33)), (2, (.t 34)), (3, (.t 35))], none, []⟩,
       ⟨(some 37), .qcall n_slices_Concat_sl_byte_byte [(.t 36)] [], none, []⟩,
       ⟨(some 8), .cn (.t 37), none, []⟩,
       ⟨(some 9), .mv (.k .nilIface), none, []⟩])
     (.ret i_digest_Node_r)))),
  [.tmp 8, .tmp 9], [], false, []⟩

def i_law03_may_r : List Bool := [false, false, true, false, false, false, false, false, false]
/-- heartwood/heartwoodlaw03.may -/
def i_law03_may : Ev.Fn := ⟨1, 9, 0,
  (.seq
   (.reg [] [
     ⟨(some 2), .mv (.k (.bool false)), none, []⟩])
   (.seq
    (.reg [] [
      ⟨(some 3), .mv (.t 0), none, []⟩,
      ⟨(some 4), .bin .plain .geq (.t 3) (.k (.int .i64 1)), none, []⟩,
      ⟨(some 5), .mv (.t 4), none, []⟩,
      ⟨(some 6), .mv (.t 0), (some (5, true)), []⟩,
      ⟨(some 7), .bin .plain .leq (.t 6) (.k (.int .i64 32)), (some (5, true)), []⟩,
      ⟨(some 8), .pick (.t 5) (.t 7) (.k (.bool false)), none, []⟩,
      ⟨(some 2), .mv (.t 8), none, []⟩])
    (.ret i_law03_may_r))),
  [.tmp 2], [], false, []⟩

def i_ref03_Pair_r : List Bool := [false, false, false, false, true, false, false, false, false, false, false, false, false]
/-- heartwood/heartwoodref03.Pair -/
def i_ref03_Pair : Ev.Fn := ⟨2, 13, 1,
  (.seq
   (.reg [] [
     ⟨(some 4), .cn (.k (.slice none 0 0)), none, []⟩])
   (.seq
    (.reg [] [
      ⟨(some 6), .lit 0 ty_uint8 1 1 [(.int .u8 0)] [(0, (.k (.int .u8 1)))], none, []⟩,
      ⟨(some 7), .cn (.t 0), none, []⟩,
      ⟨(some 8), .qcall n_ref02_Bytes [(.t 7)] [], none, []⟩,
      ⟨(some 9), .app 0 ty_uint8 1 1 (.t 6) (.t 8), none, []⟩,
      ⟨(some 5), .mv (.t 9), none, []⟩])
    (.seq
     (.reg [] [
       ⟨(some 10), .mv (.t 5), none, []⟩,
       ⟨(some 11), .cn (.t 1), none, []⟩,
       ⟨(some 12), .app 0 ty_uint8 1 1 (.t 10) (.t 11), none, []⟩,
       ⟨(some 4), .cn (.t 12), none, [12]⟩])
     (.ret i_ref03_Pair_r)))),
  [.tmp 4], [], false, []⟩

def i_ref03_Node_r : List Bool := [false, false, false, false, false, false, true, false, false, false, false, false, false, false, false, false, false]
/-- heartwood/heartwoodref03.Node -/
def i_ref03_Node : Ev.Fn := ⟨3, 17, 1,
  (.seq
   (.reg [] [
     ⟨(some 6), .cn (.k (.slice none 0 0)), none, []⟩])
   (.seq
    (.reg [] [
      ⟨(some 8), .lit 0 ty_uint8 1 1 [(.int .u8 0)] [(0, (.k (.int .u8 2)))], none, []⟩,
      ⟨(some 9), .cn (.t 0), none, []⟩,
      ⟨(some 10), .app 0 ty_uint8 1 1 (.t 8) (.t 9), none, []⟩,
      ⟨(some 7), .mv (.t 10), none, []⟩])
    (.seq
     (.reg [] [
       ⟨(some 11), .mv (.t 7), none, []⟩,
       ⟨(some 12), .cn (.t 1), none, []⟩,
       ⟨(some 13), .app 0 ty_uint8 1 1 (.t 11) (.t 12), none, []⟩,
       ⟨(some 7), .mv (.t 13), none, []⟩])
     (.seq
      (.reg [] [
        ⟨(some 14), .mv (.t 7), none, []⟩,
        ⟨(some 15), .cn (.t 2), none, []⟩,
        ⟨(some 16), .app 0 ty_uint8 1 1 (.t 14) (.t 15), none, []⟩,
        ⟨(some 6), .cn (.t 16), none, [16]⟩])
      (.ret i_ref03_Node_r))))),
  [.tmp 6], [], false, []⟩

end Go.Proofs.Ytfbipgidlecmkaa
