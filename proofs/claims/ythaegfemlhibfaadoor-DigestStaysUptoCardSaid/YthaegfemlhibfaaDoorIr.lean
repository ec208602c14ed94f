/- The IR of the seat's functions, printed by a program of this session. -/
import Derived.Test.YthaegfemlhibfaaDoorEvE
set_option linter.unusedVariables false
namespace Go.Proofs.YthaegfemlhibfaaDoor
open Go.Ev

abbrev ty_uint8 : Nat := 5
abbrev ty_string : Nat := 9
abbrev ty_uint32 : Nat := 39
abbrev ty_api_Code : Nat := 45
abbrev n_law03_DigestStays : Nat := 4
abbrev n_sha_Sum : Nat := 5
abbrev n_sha_Words : Nat := 6
abbrev n_law03_up : Nat := 7
abbrev n_digest_Value : Nat := 8
abbrev n_digest_Of : Nat := 9
abbrev n_digest_Pair : Nat := 10
abbrev n_digest_Node : Nat := 11
abbrev n_sha_Tail : Nat := 12
abbrev n_sha_Step : Nat := 13
abbrev n_math_bits_RotateLeft32 : Nat := 14
abbrev n_digest_None : Nat := 15
abbrev n_digest_width : Nat := 16
abbrev n_slices_Clone_sl_byte_byte : Nat := 17
abbrev n_slices_Concat_sl_byte_byte : Nat := 18
abbrev n_coder_Bytes : Nat := 19
abbrev n_sha_Round : Nat := 20
abbrev n_slices_Grow_sl_byte_byte : Nat := 21
abbrev n_coder_Number : Nat := 22
def i_law03_DigestStays_r : List Bool := [false, false, false, false, true, false, false, false, false, false, false, false, false, false, false, false, false, false, false, false, false, false, false, false, false, false, false, false, false, false, false, false, false, false, false, false, false, false, false, false, false, false, false, false, false, false, false, false, false, false, false, false, false, false, false, false, false, false, false, false, false, false, false, false, false, false, false, false, false, false, false, false, false, false, false, false, false, false, false, false, false, false, false, false, false, false, false, false, false, false, false, false, false, false, false, false, false, false, false, false, false, false, false, false, false, false, false, false, false, false, false, false, false, false, false, false, false, false, false, false, false, false, false, false, false, false, false, false, false, false, false, false, false, false, false, false, false, false, false, false, false, false, false, false, false, false, false, false, false, false, false, false, false, false, false, false, false, false, false, false, false, false, false, false, false, false, false, false, false, false, false, false, false, false, false]
def i_law03_DigestStays_j1 : List Bool := [true, false, false, true, false, true, true, true, true, true, true, true, true, true, true, true, true, false, false, false, false, false, false, false, false, false, false, false, false, false, false, false, false, false, false, false, false, false, false, false, false, false, false, false, false, false, false, false, false, false, false, false, false, false, false, false, false, false, false, false, false, false, false, false, false, false, false, false, false, false, false, false, false, false, false, false, false, false, false, false, false, false, false, false, false, false, false, false, false, false, false, false, false, false, false, false, false, false, false, false, false, false, false, false, false, false, false, false, false, false, false, false, false, false, false, false, false, false, false, false, false, false, false, false, false, false, false, false, false, false, false, false, false, false, false, false, false, false, false, false, false, false, false, false, false, false, false, false, false, false, false, false, false, false, false, false, false, false, false, false, false, false, false, false, false, false, false, false, false, false, false, false, false, false, false]
def i_law03_DigestStays_k0 : List Bool := [true, false, false, true, false, true, true, true, true, true, true, true, true, true, true, true, true, false, false, false, false, false, false, false, false, false, false, false, false, false, false, false, false, false, false, false, false, false, false, false, false, false, false, false, false, false, false, false, false, false, false, false, false, false, false, false, false, false, false, false, false, false, false, false, false, false, false, false, false, false, false, false, false, false, false, false, false, false, false, false, false, false, false, false, false, false, false, false, false, false, false, false, false, false, false, false, false, false, false, false, false, false, false, false, false, false, false, false, false, false, false, false, false, false, false, false, false, false, false, false, false, false, false, false, false, false, false, false, false, false, false, false, false, false, false, false, false, false, false, false, false, false, false, false, false, false, false, false, false, false, false, false, false, false, false, false, false, false, false, false, false, false, false, false, false, false, false, false, false, false, false, false, false, false, false]
def i_law03_DigestStays_j0 : List Bool := [true, false, false, true, false, true, false, true, true, true, true, true, true, true, true, true, false, false, false, false, false, false, false, false, false, false, false, false, false, false, false, false, false, false, false, false, false, false, false, false, false, false, false, false, false, false, false, false, false, false, false, false, false, false, false, false, false, false, false, false, false, false, false, false, false, false, false, false, false, false, false, false, false, false, false, false, false, false, false, false, false, false, false, false, false, false, false, false, false, false, false, false, false, false, false, false, false, false, false, false, false, false, false, false, false, false, false, false, false, false, false, false, false, false, false, false, false, false, false, false, false, false, false, false, false, false, false, false, false, false, false, false, false, false, false, false, false, false, false, false, false, false, false, false, false, false, false, false, false, false, false, false, false, false, false, false, false, false, false, false, false, false, false, false, false, false, false, false, false, false, false, false, false, false, false]
abbrev s_law03_DigestStays_R (t4 : AV) (h : Heap) : St := ⟨[.undef, .undef, .undef, .undef, t4, .undef, .undef, .undef, .undef, .undef, .undef, .undef, .undef, .undef, .undef, .undef, .undef, .undef, .undef, .undef, .undef, .undef, .undef, .undef, .undef, .undef, .undef, .undef, .undef, .undef, .undef, .undef, .undef, .undef, .undef, .undef, .undef, .undef, .undef, .undef, .undef, .undef, .undef, .undef, .undef, .undef, .undef, .undef, .undef, .undef, .undef, .undef, .undef, .undef, .undef, .undef, .undef, .undef, .undef, .undef, .undef, .undef, .undef, .undef, .undef, .undef, .undef, .undef, .undef, .undef, .undef, .undef, .undef, .undef, .undef, .undef, .undef, .undef, .undef, .undef, .undef, .undef, .undef, .undef, .undef, .undef, .undef, .undef, .undef, .undef, .undef, .undef, .undef, .undef, .undef, .undef, .undef, .undef, .undef, .undef, .undef, .undef, .undef, .undef, .undef, .undef, .undef, .undef, .undef, .undef, .undef, .undef, .undef, .undef, .undef, .undef, .undef, .undef, .undef, .undef, .undef, .undef, .undef, .undef, .undef, .undef, .undef, .undef, .undef, .undef, .undef, .undef, .undef, .undef, .undef, .undef, .undef, .undef, .undef, .undef, .undef, .undef, .undef, .undef, .undef, .undef, .undef, .undef, .undef, .undef, .undef, .undef, .undef, .undef, .undef, .undef, .undef, .undef, .undef, .undef, .undef, .undef, .undef, .undef, .undef, .undef, .undef, .undef, .undef, .undef, .undef, .undef, .undef, .undef, .undef], h⟩
abbrev s_law03_DigestStays_K0 (t0 t3 t5 t6 t7 t8 t9 t10 t11 t12 t13 t14 t15 t16 : AV) (h : Heap) : St := ⟨[t0, .undef, .undef, t3, .undef, t5, t6, t7, t8, t9, t10, t11, t12, t13, t14, t15, t16, .undef, .undef, .undef, .undef, .undef, .undef, .undef, .undef, .undef, .undef, .undef, .undef, .undef, .undef, .undef, .undef, .undef, .undef, .undef, .undef, .undef, .undef, .undef, .undef, .undef, .undef, .undef, .undef, .undef, .undef, .undef, .undef, .undef, .undef, .undef, .undef, .undef, .undef, .undef, .undef, .undef, .undef, .undef, .undef, .undef, .undef, .undef, .undef, .undef, .undef, .undef, .undef, .undef, .undef, .undef, .undef, .undef, .undef, .undef, .undef, .undef, .undef, .undef, .undef, .undef, .undef, .undef, .undef, .undef, .undef, .undef, .undef, .undef, .undef, .undef, .undef, .undef, .undef, .undef, .undef, .undef, .undef, .undef, .undef, .undef, .undef, .undef, .undef, .undef, .undef, .undef, .undef, .undef, .undef, .undef, .undef, .undef, .undef, .undef, .undef, .undef, .undef, .undef, .undef, .undef, .undef, .undef, .undef, .undef, .undef, .undef, .undef, .undef, .undef, .undef, .undef, .undef, .undef, .undef, .undef, .undef, .undef, .undef, .undef, .undef, .undef, .undef, .undef, .undef, .undef, .undef, .undef, .undef, .undef, .undef, .undef, .undef, .undef, .undef, .undef, .undef, .undef, .undef, .undef, .undef, .undef, .undef, .undef, .undef, .undef, .undef, .undef, .undef, .undef, .undef, .undef, .undef, .undef], h⟩
def i_law03_DigestStays_b0 : IR :=
  (.seq
   (.seq
    (.reg [] [
      ⟨(some 83), .mv (.t 16), none, []⟩,
      ⟨(some 84), .cn (.t 6), none, []⟩,
      ⟨(some 85), .len false (.t 84), none, []⟩,
      ⟨(some 86), .bin .plain .lss (.t 83) (.t 85), none, []⟩])
    (.cond (.t 86)
     .skip
     (.exit 0 i_law03_DigestStays_j0)))
   (.seq
    (.block 1 i_law03_DigestStays_j1
     (.reg [] [
       ⟨(some 89), .mv (.t 6), none, []⟩,
       ⟨(some 90), .mv (.t 16), none, []⟩,
       ⟨(some 91), .cn (.t 6), none, []⟩,
       ⟨(some 92), .mv (.t 16), none, []⟩,
       ⟨(some 93), .ia 1 (.t 91) (.t 92), none, []⟩,
       ⟨(some 94), .load false 1 (.t 93), none, []⟩,
       ⟨(some 95), .bin .plain .add (.t 94) (.k (.int .u8 1)), none, []⟩,
       ⟨(some 96), .ia 1 (.t 89) (.t 90), none, []⟩,
       ⟨none, .store 1 (.t 96) (.t 95), none, []⟩]))
    (.reg [] [
      ⟨(some 87), .mv (.t 16), none, []⟩,
      ⟨(some 88), .bin .plain .add (.t 87) (.k (.int .i64 1)), none, []⟩,
      ⟨(some 16), .mv (.t 88), none, []⟩])))

abbrev s_law03_DigestStays_J0 (t0 t3 t5 t7 t8 t9 t10 t11 t12 t13 t14 t15 : AV) (h : Heap) : St := ⟨[t0, .undef, .undef, t3, .undef, t5, .undef, t7, t8, t9, t10, t11, t12, t13, t14, t15, .undef, .undef, .undef, .undef, .undef, .undef, .undef, .undef, .undef, .undef, .undef, .undef, .undef, .undef, .undef, .undef, .undef, .undef, .undef, .undef, .undef, .undef, .undef, .undef, .undef, .undef, .undef, .undef, .undef, .undef, .undef, .undef, .undef, .undef, .undef, .undef, .undef, .undef, .undef, .undef, .undef, .undef, .undef, .undef, .undef, .undef, .undef, .undef, .undef, .undef, .undef, .undef, .undef, .undef, .undef, .undef, .undef, .undef, .undef, .undef, .undef, .undef, .undef, .undef, .undef, .undef, .undef, .undef, .undef, .undef, .undef, .undef, .undef, .undef, .undef, .undef, .undef, .undef, .undef, .undef, .undef, .undef, .undef, .undef, .undef, .undef, .undef, .undef, .undef, .undef, .undef, .undef, .undef, .undef, .undef, .undef, .undef, .undef, .undef, .undef, .undef, .undef, .undef, .undef, .undef, .undef, .undef, .undef, .undef, .undef, .undef, .undef, .undef, .undef, .undef, .undef, .undef, .undef, .undef, .undef, .undef, .undef, .undef, .undef, .undef, .undef, .undef, .undef, .undef, .undef, .undef, .undef, .undef, .undef, .undef, .undef, .undef, .undef, .undef, .undef, .undef, .undef, .undef, .undef, .undef, .undef, .undef, .undef, .undef, .undef, .undef, .undef, .undef, .undef, .undef, .undef, .undef, .undef, .undef], h⟩
/-- heartwood/heartwoodlaw03.DigestStays -/
def i_law03_DigestStays : Ev.Fn := ⟨2, 175, 11,
  (.seq
   (.reg [] [
     ⟨(some 3), .box 0 4 (.t 1), none, []⟩,
     ⟨(some 4), .mv (.k (.bool false)), none, []⟩])
   (.seq
    (.reg [] [
      ⟨(some 24), .qcall n_law03_up [] [], none, []⟩,
      ⟨(some 5), .mv (.t 24), none, []⟩])
    (.seq
     (.seq
      (.reg [] [
        ⟨(some 25), .cn (.t 0), none, []⟩,
        ⟨(some 26), .len false (.t 25), none, []⟩,
        ⟨(some 27), .bin .plain .gtr (.t 26) (.k (.int .i64 5000)), none, []⟩])
      (.cond (.t 27)
       (.reg [] [
         ⟨(some 28), .cn (.t 0), none, []⟩,
         ⟨(some 29), .slice 1 (.t 28) none (some (.k (.int .i64 5000))) none, none, []⟩,
         ⟨(some 0), .cn (.t 29), none, []⟩])
       .skip))
     (.seq
      (.reg [] [
        ⟨(some 30), .lit 1 ty_uint8 1 0 [(.int .u8 0)] [], none, []⟩,
        ⟨(some 31), .cn (.t 0), none, []⟩,
        ⟨(some 32), .app 1 ty_uint8 1 1 (.t 30) (.t 31), none, []⟩,
        ⟨(some 6), .mv (.t 32), none, []⟩])
      (.seq
       (.reg [] [
         ⟨(some 33), .cn (.t 6), none, []⟩,
         ⟨(some 34), .bcall n_digest_Value [(.t 33)] [2], none, []⟩,
         ⟨(some 7), .cn (.t 34), none, [34]⟩])
       (.seq
        (.reg [] [
          ⟨(some 36), .cn (.t 6), none, []⟩,
          ⟨(some 37), .bcall n_digest_Of [(.k (.int .i64 4)), (.t 36)] [3], none, []⟩,
          ⟨(some 35), .mv (.t 37), none, []⟩,
          ⟨(some 38), .ext 0 (.t 35), none, []⟩,
          ⟨(some 39), .ext 1 (.t 35), none, []⟩,
          ⟨(some 8), .cn (.t 38), none, [38]⟩,
          ⟨(some 9), .mv (.t 39), none, []⟩])
        (.seq
         (.reg [] [
           ⟨(some 40), .iap 4 1 (.t 3) (.k (.int .i64 0)), none, []⟩,
           ⟨(some 41), .load false 1 (.t 40), none, []⟩,
           ⟨(some 42), .iap 4 1 (.t 3) (.k (.int .i64 1)), none, []⟩,
           ⟨(some 43), .load false 1 (.t 42), none, []⟩,
           ⟨(some 44), .iap 4 1 (.t 3) (.k (.int .i64 2)), none, []⟩,
           ⟨(some 45), .load false 1 (.t 44), none, []⟩,
           ⟨(some 46), .iap 4 1 (.t 3) (.k (.int .i64 3)), none, []⟩,
           ⟨(some 47), .load false 1 (.t 46), none, []⟩,
           ⟨(some 48), .lit 4 ty_uint8 1 4 [(.int .u8 0)] [(0, (.t 41)), (1, (.t 43)), (2, (.t 45)), (3, (.t 47))], none, []⟩,
           ⟨(some 10), .mv (.t 48), none, []⟩])
         (.seq
          (.reg [] [
            ⟨(some 50), .cn (.t 6), none, []⟩,
            ⟨(some 51), .cn (.t 10), none, []⟩,
            ⟨(some 52), .bcall n_digest_Pair [(.k (.int .i64 4)), (.t 50), (.t 51)] [5], none, []⟩,
            ⟨(some 49), .mv (.t 52), none, []⟩,
            ⟨(some 53), .ext 0 (.t 49), none, []⟩,
            ⟨(some 54), .ext 1 (.t 49), none, []⟩,
            ⟨(some 11), .cn (.t 53), none, [53]⟩,
            ⟨(some 12), .mv (.t 54), none, []⟩])
          (.seq
           (.reg [] [
             ⟨(some 56), .cn (.t 10), none, []⟩,
             ⟨(some 57), .cn (.t 10), none, []⟩,
             ⟨(some 58), .cn (.t 10), none, []⟩,
             ⟨(some 59), .bcall n_digest_Node [(.k (.int .i64 4)), (.t 56), (.t 57), (.t 58)] [6], none, []⟩,
             ⟨(some 55), .mv (.t 59), none, []⟩,
             ⟨(some 60), .ext 0 (.t 55), none, []⟩,
             ⟨(some 61), .ext 1 (.t 55), none, []⟩,
             ⟨(some 13), .cn (.t 60), none, [60]⟩,
             ⟨(some 14), .mv (.t 61), none, []⟩])
           (.seq
            (.reg [] [
              ⟨(some 62), .cn (.t 6), none, []⟩,
              ⟨(some 63), .b2s (.t 62), none, []⟩,
              ⟨(some 64), .cn (.t 0), none, []⟩,
              ⟨(some 65), .b2s (.t 64), none, []⟩,
              ⟨(some 66), .bin .plain .eql (.t 63) (.t 65), none, []⟩,
              ⟨(some 67), .mv (.t 66), none, []⟩,
              ⟨(some 68), .cn (.t 10), (some (67, true)), []⟩,
              ⟨(some 69), .ia 1 (.t 68) (.k (.int .i64 0)), (some (67, true)), []⟩,
              ⟨(some 70), .load false 1 (.t 69), (some (67, true)), []⟩,
              ⟨(some 71), .iap 4 1 (.t 3) (.k (.int .i64 0)), (some (67, true)), []⟩,
              ⟨(some 72), .load false 1 (.t 71), (some (67, true)), []⟩,
              ⟨(some 73), .bin .plain .eql (.t 70) (.t 72), (some (67, true)), []⟩,
              ⟨(some 74), .pick (.t 67) (.t 73) (.k (.bool false)), none, []⟩,
              ⟨(some 75), .mv (.t 74), none, []⟩,
              ⟨(some 76), .cn (.t 10), (some (75, true)), []⟩,
              ⟨(some 77), .ia 1 (.t 76) (.k (.int .i64 3)), (some (75, true)), []⟩,
              ⟨(some 78), .load false 1 (.t 77), (some (75, true)), []⟩,
              ⟨(some 79), .iap 4 1 (.t 3) (.k (.int .i64 3)), (some (75, true)), []⟩,
              ⟨(some 80), .load false 1 (.t 79), (some (75, true)), []⟩,
              ⟨(some 81), .bin .plain .eql (.t 78) (.t 80), (some (75, true)), []⟩,
              ⟨(some 82), .pick (.t 75) (.t 81) (.k (.bool false)), none, []⟩,
              ⟨(some 15), .mv (.t 82), none, []⟩])
            (.seq
             (.seq
              (.reg [] [
                ⟨(some 16), .mv (.k (.int .i64 0)), none, []⟩])
              (.block 0 i_law03_DigestStays_j0
               (.loop i_law03_DigestStays_k0 i_law03_DigestStays_b0)))
             (.seq
              (.reg [] [
                ⟨(some 97), .mv (.t 10), none, []⟩,
                ⟨(some 98), .cn (.t 10), none, []⟩,
                ⟨(some 99), .ia 1 (.t 98) (.k (.int .i64 0)), none, []⟩,
                ⟨(some 100), .load false 1 (.t 99), none, []⟩,
                ⟨(some 101), .bin .plain .add (.t 100) (.k (.int .u8 1)), none, []⟩,
                ⟨(some 102), .ia 1 (.t 97) (.k (.int .i64 0)), none, []⟩,
                ⟨none, .store 1 (.t 102) (.t 101), none, []⟩])
              (.seq
               (.reg [] [
                 ⟨(some 103), .iap 4 1 (.t 3) (.k (.int .i64 0)), none, []⟩,
                 ⟨(some 104), .load false 1 (.t 103), none, []⟩,
                 ⟨(some 105), .iap 4 1 (.t 3) (.k (.int .i64 1)), none, []⟩,
                 ⟨(some 106), .load false 1 (.t 105), none, []⟩,
                 ⟨(some 107), .iap 4 1 (.t 3) (.k (.int .i64 2)), none, []⟩,
                 ⟨(some 108), .load false 1 (.t 107), none, []⟩,
                 ⟨(some 109), .iap 4 1 (.t 3) (.k (.int .i64 3)), none, []⟩,
                 ⟨(some 110), .load false 1 (.t 109), none, []⟩,
                 ⟨(some 111), .litd 1 4 [(.int .u8 0)] [(0, (.t 104)), (1, (.t 106)), (2, (.t 108)), (3, (.t 110))], none, []⟩,
                 ⟨(some 17), .cn (.t 111), none, []⟩])
               (.seq
                (.reg [] [
                  ⟨(some 113), .cn (.t 0), none, []⟩,
                  ⟨(some 114), .bcall n_digest_Of [(.k (.int .i64 4)), (.t 113)] [7], none, []⟩,
                  ⟨(some 112), .mv (.t 114), none, []⟩,
                  ⟨(some 115), .ext 0 (.t 112), none, []⟩,
                  ⟨(some 116), .ext 1 (.t 112), none, []⟩,
                  ⟨(some 18), .cn (.t 115), none, [115]⟩,
                  ⟨(some 19), .mv (.t 116), none, []⟩])
                (.seq
                 (.reg [] [
                   ⟨(some 118), .cn (.t 0), none, []⟩,
                   ⟨(some 119), .cn (.t 17), none, []⟩,
                   ⟨(some 120), .bcall n_digest_Pair [(.k (.int .i64 4)), (.t 118), (.t 119)] [8], none, []⟩,
                   ⟨(some 117), .mv (.t 120), none, []⟩,
                   ⟨(some 121), .ext 0 (.t 117), none, []⟩,
                   ⟨(some 122), .ext 1 (.t 117), none, []⟩,
                   ⟨(some 20), .cn (.t 121), none, [121]⟩,
                   ⟨(some 21), .mv (.t 122), none, []⟩])
                 (.seq
                  (.reg [] [
                    ⟨(some 124), .cn (.t 17), none, []⟩,
                    ⟨(some 125), .cn (.t 17), none, []⟩,
                    ⟨(some 126), .cn (.t 17), none, []⟩,
                    ⟨(some 127), .bcall n_digest_Node [(.k (.int .i64 4)), (.t 124), (.t 125), (.t 126)] [9], none, []⟩,
                    ⟨(some 123), .mv (.t 127), none, []⟩,
                    ⟨(some 128), .ext 0 (.t 123), none, []⟩,
                    ⟨(some 129), .ext 1 (.t 123), none, []⟩,
                    ⟨(some 22), .cn (.t 128), none, [128]⟩,
                    ⟨(some 23), .mv (.t 129), none, []⟩])
                  (.seq
                   (.reg [(18, 20)] [
                     ⟨(some 130), .mv (.t 5), none, []⟩,
                     ⟨(some 131), .mv (.t 130), none, []⟩,
                     ⟨(some 132), .mv (.t 15), (some (131, true)), []⟩,
                     ⟨(some 133), .pick (.t 131) (.t 132) (.k (.bool false)), none, []⟩,
                     ⟨(some 134), .mv (.t 133), none, []⟩,
                     ⟨(some 135), .mv (.t 9), (some (134, true)), []⟩,
                     ⟨(some 136), .bin (.iface ty_api_Code true) .eql (.t 135) (.k .nilIface), (some (134, true)), []⟩,
                     ⟨(some 137), .pick (.t 134) (.t 136) (.k (.bool false)), none, []⟩,
                     ⟨(some 138), .mv (.t 137), none, []⟩,
                     ⟨(some 139), .mv (.t 12), (some (138, true)), []⟩,
                     ⟨(some 140), .bin (.iface ty_api_Code true) .eql (.t 139) (.k .nilIface), (some (138, true)), []⟩,
                     ⟨(some 141), .pick (.t 138) (.t 140) (.k (.bool false)), none, []⟩,
                     ⟨(some 142), .mv (.t 141), none, []⟩,
                     ⟨(some 143), .mv (.t 14), (some (142, true)), []⟩,
                     ⟨(some 144), .bin (.iface ty_api_Code true) .eql (.t 143) (.k .nilIface), (some (142, true)), []⟩,
                     ⟨(some 145), .pick (.t 142) (.t 144) (.k (.bool false)), none, []⟩,
                     ⟨(some 146), .mv (.t 145), none, []⟩,
                     ⟨(some 147), .cn (.t 7), (some (146, true)), []⟩,
                     ⟨(some 148), .b2s (.t 147), (some (146, true)), []⟩,
                     ⟨(some 149), .cn (.t 0), (some (146, true)), []⟩,
                     ⟨(some 150), .bcall n_digest_Value [(.t 149)] [10], (some (146, true)), []⟩,
                     ⟨(some 151), .b2s (.t 150), (some (146, true)), []⟩,
                     ⟨(some 152), .bin .plain .eql (.t 148) (.t 151), (some (146, true)), []⟩,
                     ⟨(some 153), .pick (.t 146) (.t 152) (.k (.bool false)), none, []⟩,
                     ⟨(some 154), .mv (.t 153), none, []⟩,
                     ⟨(some 155), .cn (.t 8), (some (154, true)), []⟩,
                     ⟨(some 156), .b2s (.t 155), (some (154, true)), []⟩,
                     ⟨(some 157), .cn (.t 18), (some (154, true)), []⟩,
                     ⟨(some 158), .b2s (.t 157), (some (154, true)), []⟩,
                     ⟨(some 159), .bin .plain .eql (.t 156) (.t 158), (some (154, true)), []⟩,
                     ⟨(some 160), .pick (.t 154) (.t 159) (.k (.bool false)), none, []⟩,
                     ⟨(some 161), .mv (.t 160), none, []⟩,
                     ⟨(some 162), .cn (.t 11), (some (161, true)), []⟩,
                     ⟨(some 163), .b2s (.t 162), (some (161, true)), []⟩,
                     ⟨(some 164), .cn (.t 20), (some (161, true)), []⟩,
                     ⟨(some 165), .b2s (.t 164), (some (161, true)), []⟩,
                     ⟨(some 166), .bin .plain .eql (.t 163) (.t 165), (some (161, true)), []⟩,
                     ⟨(some 167), .pick (.t 161) (.t 166) (.k (.bool false)), none, []⟩,
                     ⟨(some 168), .mv (.t 167), none, []⟩,
                     ⟨(some 169), .cn (.t 13), (some (168, true)), []⟩,
                     ⟨(some 170), .b2s (.t 169), (some (168, true)), []⟩,
                     ⟨(some 171), .cn (.t 22), (some (168, true)), []⟩,
                     ⟨(some 172), .b2s (.t 171), (some (168, true)), []⟩,
                     ⟨(some 173), .bin .plain .eql (.t 170) (.t 172), (some (168, true)), []⟩,
                     ⟨(some 174), .pick (.t 168) (.t 173) (.k (.bool false)), none, []⟩,
                     ⟨(some 4), .mv (.t 174), none, []⟩])
                   (.ret i_law03_DigestStays_r)))))))))))))))))),
  [.tmp 4], [], false, []⟩

def i_law03_up_r : List Bool := [true, false, false, false, false, false, false, false, false, false, false, false, false, false, false, false, false, false, false, false, false, false]
/-- heartwood/heartwoodlaw03.up -/
def i_law03_up : Ev.Fn := ⟨0, 22, 2,
  (.seq
   (.reg [] [
     ⟨(some 0), .mv (.k (.bool false)), none, []⟩])
   (.seq
    (.reg [] [
      ⟨(some 4), .lit 0 ty_uint8 1 1 [(.int .u8 0)] [(0, (.k (.int .u8 97)))], none, []⟩,
      ⟨(some 5), .markb (.t 4), none, []⟩,
      ⟨(some 6), .litd 1 1 [(.int .u8 0)] [(0, (.k (.int .u8 255)))], none, []⟩,
      ⟨(some 7), .qcall n_digest_Pair [(.k (.int .i64 1)), (.t 5), (.t 6)] [1], none, []⟩,
      ⟨(some 3), .mv (.t 7), none, []⟩,
      ⟨(some 8), .ext 0 (.t 3), none, []⟩,
      ⟨(some 9), .ext 1 (.t 3), none, []⟩,
      ⟨(some 1), .cn (.t 8), none, [8]⟩,
      ⟨(some 2), .mv (.t 9), none, []⟩])
    (.seq
     (.reg [] [
       ⟨(some 10), .mv (.t 2), none, []⟩,
       ⟨(some 11), .bin (.iface ty_api_Code true) .eql (.t 10) (.k .nilIface), none, []⟩,
       ⟨(some 12), .mv (.t 11), none, []⟩,
       ⟨(some 13), .cn (.t 1), (some (12, true)), []⟩,
       ⟨(some 14), .b2s (.t 13), (some (12, true)), []⟩,
       ⟨(some 15), .bin .plain .eql (.t 14) (.k (.string ⟨#[1, 1, 97, 255]⟩)), (some (12, true)), []⟩,
       ⟨(some 16), .pick (.t 12) (.t 15) (.k (.bool false)), none, []⟩,
       ⟨(some 17), .mv (.t 16), none, []⟩,
       ⟨(some 18), .qcall n_digest_None [] [], (some (17, true)), []⟩,
       ⟨(some 19), .b2s (.t 18), (some (17, true)), []⟩,
       ⟨(some 20), .bin .plain .eql (.t 19) (.k (.string ⟨#[3]⟩)), (some (17, true)), []⟩,
       ⟨(some 21), .pick (.t 17) (.t 20) (.k (.bool false)), none, []⟩,
       ⟨(some 0), .mv (.t 21), none, []⟩])
     (.ret i_law03_up_r)))),
  [.tmp 0], [], false, []⟩

def i_digest_Pair_r : List Bool := [false, false, false, false, false, false, true, true, false, false, false, false, false, false, false, false, false, false, false, false, false, false, false, false]
/-- heartwood/digest.Pair -/
def i_digest_Pair : Ev.Fn := ⟨3, 24, 1,
  (.seq
   (.reg [] [
     ⟨(some 6), .mv (.k (.slice none 0 0)), none, []⟩,
     ⟨(some 7), .mv (.k .nilIface), none, []⟩])
   (.seq
    (.seq
     (.reg [] [
       ⟨(some 8), .mv (.t 0), none, []⟩,
       ⟨(some 9), .qcall n_digest_width [(.t 8)] [], none, []⟩,
       ⟨(some 10), .un .not (.t 9), none, []⟩,
       ⟨(some 11), .mv (.t 10), none, []⟩,
       ⟨(some 12), .cn (.t 2), (some (11, false)), []⟩,
       ⟨(some 13), .len false (.t 12), (some (11, false)), []⟩,
       ⟨(some 14), .mv (.t 0), (some (11, false)), []⟩,
       ⟨(some 15), .bin .plain .neq (.t 13) (.t 14), (some (11, false)), []⟩,
       ⟨(some 16), .pick (.t 11) (.k (.bool true)) (.t 15), none, []⟩])
     (.cond (.t 16)
      (.seq
       (.reg [] [
         ⟨(some 17), .mki ty_api_Code (.k (.int .i64 1)), none, []⟩,
         ⟨(some 6), .mv (.k (.slice none 0 0)), none, []⟩,
         ⟨(some 7), .mv (.t 17), none, []⟩])
       (.ret i_digest_Pair_r))
      .skip))
    (.seq
     (.reg [] [
       ⟨(some 18), .litd 1 1 [(.int .u8 0)] [(0, (.k (.int .u8 1)))], none, []⟩,
       ⟨(some 19), .cn (.t 1), none, []⟩,
       ⟨(some 20), .qcall n_coder_Bytes [(.t 19)] [], none, []⟩,
       ⟨(some 21), .cn (.t 2), none, []⟩,
       ⟨(some 22), .litd 1 3 [(.slice none 0 0)] [(0, (.t 18)), (1, (.t 20)), (2, (.t 21))], none, []⟩,
       ⟨(some 23), .qcall n_slices_Concat_sl_byte_byte [(.t 22)] [0], none, []⟩,
       ⟨(some 6), .mv (.t 23), none, []⟩,
       ⟨(some 7), .mv (.k .nilIface), none, []⟩])
     (.ret i_digest_Pair_r)))),
  [.tmp 6, .tmp 7], [true, false], false, []⟩

def i_digest_width_r : List Bool := [false, false, true, false, false, false, false, false, false]
/-- heartwood/digest.width -/
def i_digest_width : Ev.Fn := ⟨1, 9, 0,
  (.seq
   (.reg [] [
     ⟨(some 2), .mv (.k (.bool false)), none, []⟩])
   (.seq
    (.reg [] [
      ⟨(some 3), .mv (.t 0), none, []⟩,
      ⟨(some 4), .bin .plain .geq (.t 3) (.k (.int .i64 1)), none, []⟩,
      ⟨(some 5), .mv (.t 4), none, []⟩,
      ⟨(some 6), .mv (.t 0), (some (5, true)), []⟩,
      ⟨(some 7), .bin .plain .leq (.t 6) (.k (.int .i64 32)), (some (5, true)), []⟩,
      ⟨(some 8), .pick (.t 5) (.t 7) (.k (.bool false)), none, []⟩,
      ⟨(some 2), .mv (.t 8), none, []⟩])
    (.ret i_digest_width_r))),
  [.tmp 2], [], false, []⟩

def i_coder_Bytes_r : List Bool := [false, false, true, false, false, false, false, false, false]
/-- heartwood/coder.Bytes -/
def i_coder_Bytes : Ev.Fn := ⟨1, 9, 2,
  (.seq
   (.reg [] [
     ⟨(some 2), .cn (.k (.slice none 0 0)), none, []⟩])
   (.seq
    (.reg [] [
      ⟨(some 3), .cn (.t 0), none, []⟩,
      ⟨(some 4), .len false (.t 3), none, []⟩,
      ⟨(some 5), .conv .u64 (.t 4), none, []⟩,
      ⟨(some 6), .qcall n_coder_Number [(.t 5)] [0], none, []⟩,
      ⟨(some 7), .cn (.t 0), none, []⟩,
      ⟨(some 8), .app 1 ty_uint8 1 1 (.t 6) (.t 7), none, []⟩,
      ⟨(some 2), .cn (.t 8), none, [8]⟩])
    (.ret i_coder_Bytes_r))),
  [.tmp 2], [], false, []⟩

def i_coder_Number_r : List Bool := [false, false, true, false, false, false, false, false, false, false, false, false, false, false, false, false, false, false, false, false, false, false, false, false, false, false, false, false, false, false, false, false, false, false, false, false, false, false, false, false, false, false, false]
def i_coder_Number_j1 : List Bool := [true, false, false, true, false, false, false, false, false, false, false, false, false, false, false, false, false, false, false, false, false, false, false, false, false, false, false, false, false, false, false, false, false, false, false, false, false, false, false, false, false, false, false]
def i_coder_Number_k0 : List Bool := [true, false, false, true, false, false, false, false, false, false, false, false, false, false, false, false, false, false, false, false, false, false, false, false, false, false, false, false, false, false, false, false, false, false, false, false, false, false, false, false, false, false, false]
def i_coder_Number_j0 : List Bool := [true, false, false, true, false, false, false, false, false, false, false, false, false, false, false, false, false, false, false, false, false, false, false, false, false, false, false, false, false, false, false, false, false, false, false, false, false, false, false, false, false, false, false]
def i_coder_Number_j3 : List Bool := [true, false, false, true, true, false, false, false, false, false, false, false, false, false, false, false, false, false, false, false, false, false, false, false, false, false, true, true, false, false, false, false, false, false, false, false, false, false, false, false, false, false, false]
def i_coder_Number_k1 : List Bool := [true, false, false, true, true, false, false, false, false, false, false, false, false, false, false, false, false, false, false, false, false, false, false, false, false, false, true, true, false, false, false, false, false, false, false, false, false, false, false, false, false, false, false]
def i_coder_Number_j2 : List Bool := [false, false, false, false, true, false, false, false, false, false, false, false, false, false, false, false, false, false, false, false, false, false, false, false, false, false, false, false, false, false, false, false, false, false, false, false, false, false, false, false, false, false, false]
abbrev s_coder_Number_R (t2 : AV) (h : Heap) : St := ⟨[.undef, .undef, t2, .undef, .undef, .undef, .undef, .undef, .undef, .undef, .undef, .undef, .undef, .undef, .undef, .undef, .undef, .undef, .undef, .undef, .undef, .undef, .undef, .undef, .undef, .undef, .undef, .undef, .undef, .undef, .undef, .undef, .undef, .undef, .undef, .undef, .undef, .undef, .undef, .undef, .undef, .undef, .undef], h⟩
abbrev s_coder_Number_K0 (t0 t3 : AV) (h : Heap) : St := ⟨[t0, .undef, .undef, t3, .undef, .undef, .undef, .undef, .undef, .undef, .undef, .undef, .undef, .undef, .undef, .undef, .undef, .undef, .undef, .undef, .undef, .undef, .undef, .undef, .undef, .undef, .undef, .undef, .undef, .undef, .undef, .undef, .undef, .undef, .undef, .undef, .undef, .undef, .undef, .undef, .undef, .undef, .undef], h⟩
def i_coder_Number_b0 : IR :=
  (.seq
   (.seq
    (.reg [] [
      ⟨(some 11), .mv (.t 3), none, []⟩,
      ⟨(some 12), .bin .plain .lss (.t 11) (.k (.int .i64 8)), none, []⟩,
      ⟨(some 13), .mv (.t 12), none, []⟩,
      ⟨(some 14), .mv (.t 0), (some (13, true)), []⟩,
      ⟨(some 15), .mv (.t 3), (some (13, true)), []⟩,
      ⟨(some 16), .bin .plain .mul (.k (.int .i64 8)) (.t 15), (some (13, true)), []⟩,
      ⟨(some 17), .bin .plain .shr (.t 14) (.t 16), (some (13, true)), []⟩,
      ⟨(some 18), .bin .plain .gtr (.t 17) (.k (.int .u64 0)), (some (13, true)), []⟩,
      ⟨(some 19), .pick (.t 13) (.t 18) (.k (.bool false)), none, []⟩])
    (.cond (.t 19)
     .skip
     (.exit 0 i_coder_Number_j0)))
   (.block 1 i_coder_Number_j1
    (.reg [] [
      ⟨(some 20), .mv (.t 3), none, []⟩,
      ⟨(some 21), .bin .plain .add (.t 20) (.k (.int .i64 1)), none, []⟩,
      ⟨(some 3), .mv (.t 21), none, []⟩])))

abbrev s_coder_Number_J0 (t0 t3 : AV) (h : Heap) : St := ⟨[t0, .undef, .undef, t3, .undef, .undef, .undef, .undef, .undef, .undef, .undef, .undef, .undef, .undef, .undef, .undef, .undef, .undef, .undef, .undef, .undef, .undef, .undef, .undef, .undef, .undef, .undef, .undef, .undef, .undef, .undef, .undef, .undef, .undef, .undef, .undef, .undef, .undef, .undef, .undef, .undef, .undef, .undef], h⟩
abbrev s_coder_Number_K1 (t0 t3 t4 t26 t27 : AV) (h : Heap) : St := ⟨[t0, .undef, .undef, t3, t4, .undef, .undef, .undef, .undef, .undef, .undef, .undef, .undef, .undef, .undef, .undef, .undef, .undef, .undef, .undef, .undef, .undef, .undef, .undef, .undef, .undef, t26, t27, .undef, .undef, .undef, .undef, .undef, .undef, .undef, .undef, .undef, .undef, .undef, .undef, .undef, .undef, .undef], h⟩
def i_coder_Number_b1 : IR :=
  (.seq
   (.reg [] [
     ⟨(some 28), .bin .plain .lss (.t 27) (.t 26), none, []⟩])
   (.seq
    (.cond (.t 28)
     .skip
     (.exit 2 i_coder_Number_j2))
    (.seq
     (.block 3 i_coder_Number_j3
      (.seq
       (.reg [] [
         ⟨(some 29), .mv (.t 27), none, []⟩,
         ⟨(some 5), .mv (.t 29), none, []⟩])
       (.reg [] [
         ⟨(some 30), .mv (.t 4), none, []⟩,
         ⟨(some 31), .mv (.t 0), none, []⟩,
         ⟨(some 32), .mv (.t 3), none, []⟩,
         ⟨(some 33), .bin .plain .sub (.t 32) (.k (.int .i64 1)), none, []⟩,
         ⟨(some 34), .mv (.t 5), none, []⟩,
         ⟨(some 35), .bin .plain .sub (.t 33) (.t 34), none, []⟩,
         ⟨(some 36), .bin .plain .mul (.k (.int .i64 8)) (.t 35), none, []⟩,
         ⟨(some 37), .bin .plain .shr (.t 31) (.t 36), none, []⟩,
         ⟨(some 38), .conv .u8 (.t 37), none, []⟩,
         ⟨(some 39), .litd 1 1 [(.int .u8 0)] [(0, (.t 38))], none, []⟩,
         ⟨(some 40), .app 0 ty_uint8 1 1 (.t 30) (.t 39), none, []⟩,
         ⟨(some 4), .mv (.t 40), none, []⟩])))
     (.reg [] [
       ⟨(some 41), .bin .plain .add (.t 27) (.k (.int .i64 1)), none, []⟩,
       ⟨(some 27), .mv (.t 41), none, []⟩]))))

abbrev s_coder_Number_J2 (t4 : AV) (h : Heap) : St := ⟨[.undef, .undef, .undef, .undef, t4, .undef, .undef, .undef, .undef, .undef, .undef, .undef, .undef, .undef, .undef, .undef, .undef, .undef, .undef, .undef, .undef, .undef, .undef, .undef, .undef, .undef, .undef, .undef, .undef, .undef, .undef, .undef, .undef, .undef, .undef, .undef, .undef, .undef, .undef, .undef, .undef, .undef, .undef], h⟩
/-- heartwood/coder.Number -/
def i_coder_Number : Ev.Fn := ⟨1, 43, 1,
  (.seq
   (.reg [] [
     ⟨(some 2), .mv (.k (.slice none 0 0)), none, []⟩])
   (.seq
    (.seq
     (.reg [] [
       ⟨(some 6), .mv (.t 0), none, []⟩,
       ⟨(some 7), .bin .plain .leq (.t 6) (.k (.int .u64 247)), none, []⟩])
     (.cond (.t 7)
      (.seq
       (.reg [] [
         ⟨(some 8), .mv (.t 0), none, []⟩,
         ⟨(some 9), .conv .u8 (.t 8), none, []⟩,
         ⟨(some 10), .lit 0 ty_uint8 1 1 [(.int .u8 0)] [(0, (.t 9))], none, []⟩,
         ⟨(some 2), .mv (.t 10), none, []⟩])
       (.ret i_coder_Number_r))
      .skip))
    (.seq
     (.reg [] [
       ⟨(some 3), .mv (.k (.int .i64 1)), none, []⟩])
     (.seq
      (.block 0 i_coder_Number_j0
       (.loop i_coder_Number_k0 i_coder_Number_b0))
      (.seq
       (.reg [] [
         ⟨(some 22), .mv (.t 3), none, []⟩,
         ⟨(some 23), .bin .plain .add (.k (.int .i64 247)) (.t 22), none, []⟩,
         ⟨(some 24), .conv .u8 (.t 23), none, []⟩,
         ⟨(some 25), .lit 0 ty_uint8 1 1 [(.int .u8 0)] [(0, (.t 24))], none, []⟩,
         ⟨(some 4), .mv (.t 25), none, []⟩])
       (.seq
        (.seq
         (.reg [] [
           ⟨(some 26), .mv (.t 3), none, []⟩,
           ⟨(some 27), .mv (.k (.int .i64 0)), none, []⟩])
         (.block 2 i_coder_Number_j2
          (.loop i_coder_Number_k1 i_coder_Number_b1)))
        (.seq
         (.reg [] [
           ⟨(some 42), .mv (.t 4), none, []⟩,
           ⟨(some 2), .mv (.t 42), none, []⟩])
         (.ret i_coder_Number_r)))))))),
  [.tmp 2], [true], false, []⟩

def i_slices_Concat_sl_byte_byte_r : List Bool := [false, false, true, false, false, false, false, false, false, false, false, false, false, false, false, false, false, false, false, false, false, false, false, false, false, false, false, false, false, false, false, false, false, false, false, false]
def i_slices_Concat_sl_byte_byte_j1 : List Bool := [true, false, false, true, false, false, false, false, false, true, true, true, false, false, false, false, false, false, false, false, false, false, false, false, false, false, false, false, false, false, false, false, false, false, false, false]
def i_slices_Concat_sl_byte_byte_k0 : List Bool := [true, false, false, true, false, false, false, false, false, true, true, true, false, false, false, false, false, false, false, false, false, false, false, false, false, false, false, false, false, false, false, false, false, false, false, false]
def i_slices_Concat_sl_byte_byte_j0 : List Bool := [true, false, false, true, false, false, false, false, false, false, false, false, false, false, false, false, false, false, false, false, false, false, false, false, false, false, false, false, false, false, false, false, false, false, false, false]
def i_slices_Concat_sl_byte_byte_j3 : List Bool := [false, false, false, false, false, false, true, false, false, false, false, false, false, false, false, false, false, false, false, false, false, false, false, false, false, true, true, true, false, false, false, false, false, false, false, false]
def i_slices_Concat_sl_byte_byte_k1 : List Bool := [false, false, false, false, false, false, true, false, false, false, false, false, false, false, false, false, false, false, false, false, false, false, false, false, false, true, true, true, false, false, false, false, false, false, false, false]
def i_slices_Concat_sl_byte_byte_j2 : List Bool := [false, false, false, false, false, false, true, false, false, false, false, false, false, false, false, false, false, false, false, false, false, false, false, false, false, false, false, false, false, false, false, false, false, false, false, false]
abbrev s_slices_Concat_sl_byte_byte_R (t2 : AV) (h : Heap) : St := ⟨[.undef, .undef, t2, .undef, .undef, .undef, .undef, .undef, .undef, .undef, .undef, .undef, .undef, .undef, .undef, .undef, .undef, .undef, .undef, .undef, .undef, .undef, .undef, .undef, .undef, .undef, .undef, .undef, .undef, .undef, .undef, .undef, .undef, .undef, .undef, .undef], h⟩
abbrev s_slices_Concat_sl_byte_byte_K0 (t0 t3 t9 t10 t11 : AV) (h : Heap) : St := ⟨[t0, .undef, .undef, t3, .undef, .undef, .undef, .undef, .undef, t9, t10, t11, .undef, .undef, .undef, .undef, .undef, .undef, .undef, .undef, .undef, .undef, .undef, .undef, .undef, .undef, .undef, .undef, .undef, .undef, .undef, .undef, .undef, .undef, .undef, .undef], h⟩
def i_slices_Concat_sl_byte_byte_b0 : IR :=
  (.seq
   (.reg [] [
     ⟨(some 12), .bin .plain .lss (.t 11) (.t 10), none, []⟩])
   (.seq
    (.cond (.t 12)
     .skip
     (.exit 0 i_slices_Concat_sl_byte_byte_j0))
    (.seq
     (.block 1 i_slices_Concat_sl_byte_byte_j1
      (.seq
       (.reg [] [
         ⟨(some 13), .ia 1 (.t 9) (.t 11), none, []⟩,
         ⟨(some 14), .load false 1 (.t 13), none, []⟩,
         ⟨(some 5), .cn (.t 14), none, []⟩])
       (.seq
        (.reg [] [
          ⟨(some 15), .mv (.t 3), none, []⟩,
          ⟨(some 16), .cn (.t 5), none, []⟩,
          ⟨(some 17), .len false (.t 16), none, []⟩,
          ⟨(some 18), .bin .plain .add (.t 15) (.t 17), none, []⟩,
          ⟨(some 3), .mv (.t 18), none, []⟩])
        (.seq
         (.reg [] [
           ⟨(some 19), .mv (.t 3), none, []⟩,
           ⟨(some 20), .bin .plain .lss (.t 19) (.k (.int .i64 0)), none, []⟩])
         (.cond (.t 20)
          (.reg [] [
            ⟨(some 21), .mki ty_string (.k (.string ⟨#[108, 101, 110, 32, 111, 117, 116, 32, 111, 102, 32, 114, 97, 110, 103, 101]⟩)), none, []⟩,
            ⟨none, .trap, none, []⟩])
          .skip)))))
     (.reg [] [
       ⟨(some 22), .bin .plain .add (.t 11) (.k (.int .i64 1)), none, []⟩,
       ⟨(some 11), .mv (.t 22), none, []⟩]))))

abbrev s_slices_Concat_sl_byte_byte_J0 (t0 t3 : AV) (h : Heap) : St := ⟨[t0, .undef, .undef, t3, .undef, .undef, .undef, .undef, .undef, .undef, .undef, .undef, .undef, .undef, .undef, .undef, .undef, .undef, .undef, .undef, .undef, .undef, .undef, .undef, .undef, .undef, .undef, .undef, .undef, .undef, .undef, .undef, .undef, .undef, .undef, .undef], h⟩
abbrev s_slices_Concat_sl_byte_byte_K1 (t6 t25 t26 t27 : AV) (h : Heap) : St := ⟨[.undef, .undef, .undef, .undef, .undef, .undef, t6, .undef, .undef, .undef, .undef, .undef, .undef, .undef, .undef, .undef, .undef, .undef, .undef, .undef, .undef, .undef, .undef, .undef, .undef, t25, t26, t27, .undef, .undef, .undef, .undef, .undef, .undef, .undef, .undef], h⟩
def i_slices_Concat_sl_byte_byte_b1 : IR :=
  (.seq
   (.reg [] [
     ⟨(some 28), .bin .plain .lss (.t 27) (.t 26), none, []⟩])
   (.seq
    (.cond (.t 28)
     .skip
     (.exit 2 i_slices_Concat_sl_byte_byte_j2))
    (.seq
     (.block 3 i_slices_Concat_sl_byte_byte_j3
      (.seq
       (.reg [] [
         ⟨(some 29), .ia 1 (.t 25) (.t 27), none, []⟩,
         ⟨(some 30), .load false 1 (.t 29), none, []⟩,
         ⟨(some 8), .cn (.t 30), none, []⟩])
       (.reg [] [
         ⟨(some 31), .mv (.t 6), none, []⟩,
         ⟨(some 32), .cn (.t 8), none, []⟩,
         ⟨(some 33), .app 1 ty_uint8 1 1 (.t 31) (.t 32), none, []⟩,
         ⟨(some 6), .mv (.t 33), none, []⟩])))
     (.reg [] [
       ⟨(some 34), .bin .plain .add (.t 27) (.k (.int .i64 1)), none, []⟩,
       ⟨(some 27), .mv (.t 34), none, []⟩]))))

abbrev s_slices_Concat_sl_byte_byte_J2 (t6 : AV) (h : Heap) : St := ⟨[.undef, .undef, .undef, .undef, .undef, .undef, t6, .undef, .undef, .undef, .undef, .undef, .undef, .undef, .undef, .undef, .undef, .undef, .undef, .undef, .undef, .undef, .undef, .undef, .undef, .undef, .undef, .undef, .undef, .undef, .undef, .undef, .undef, .undef, .undef, .undef], h⟩
/-- slices.Concat[[]byte,byte] -/
def i_slices_Concat_sl_byte_byte : Ev.Fn := ⟨1, 36, 2,
  (.seq
   (.reg [] [
     ⟨(some 2), .mv (.k (.slice none 0 0)), none, []⟩])
   (.seq
    (.reg [] [
      ⟨(some 3), .mv (.k (.int .i64 0)), none, []⟩])
    (.seq
     (.seq
      (.reg [] [
        ⟨(some 9), .cn (.t 0), none, []⟩,
        ⟨(some 10), .len false (.t 9), none, []⟩,
        ⟨(some 11), .mv (.k (.int .i64 0)), none, []⟩])
      (.block 0 i_slices_Concat_sl_byte_byte_j0
       (.loop i_slices_Concat_sl_byte_byte_k0 i_slices_Concat_sl_byte_byte_b0)))
     (.seq
      (.reg [] [
        ⟨(some 23), .mv (.t 3), none, []⟩,
        ⟨(some 24), .qcall n_slices_Grow_sl_byte_byte [(.k (.slice none 0 0)), (.t 23)] [0], none, []⟩,
        ⟨(some 6), .mv (.t 24), none, []⟩])
      (.seq
       (.seq
        (.reg [] [
          ⟨(some 25), .cn (.t 0), none, []⟩,
          ⟨(some 26), .len false (.t 25), none, []⟩,
          ⟨(some 27), .mv (.k (.int .i64 0)), none, []⟩])
        (.block 2 i_slices_Concat_sl_byte_byte_j2
         (.loop i_slices_Concat_sl_byte_byte_k1 i_slices_Concat_sl_byte_byte_b1)))
       (.seq
        (.reg [] [
          ⟨(some 35), .mv (.t 6), none, []⟩,
          ⟨(some 2), .mv (.t 35), none, []⟩])
        (.ret i_slices_Concat_sl_byte_byte_r))))))),
  [.tmp 2], [true], false, []⟩

def i_slices_Grow_sl_byte_byte_r : List Bool := [false, false, false, false, true, false, false, false, false, false, false, false, false, false, false, false, false, false, false, false, false, false, false, false, false, false, false]
/-- slices.Grow[[]byte,byte] -/
def i_slices_Grow_sl_byte_byte : Ev.Fn := ⟨2, 27, 3,
  (.seq
   (.reg [] [
     ⟨(some 4), .mv (.k (.slice none 0 0)), none, []⟩])
   (.seq
    (.seq
     (.reg [] [
       ⟨(some 5), .mv (.t 1), none, []⟩,
       ⟨(some 6), .bin .plain .lss (.t 5) (.k (.int .i64 0)), none, []⟩])
     (.cond (.t 6)
      (.reg [] [
        ⟨(some 7), .mki ty_string (.k (.string ⟨#[99, 97, 110, 110, 111, 116, 32, 98, 101, 32, 110, 101, 103, 97, 116, 105, 118, 101]⟩)), none, []⟩,
        ⟨none, .trap, none, []⟩])
      .skip))
    (.seq
     (.seq
      (.reg [] [
        ⟨(some 8), .mv (.t 1), none, []⟩,
        ⟨(some 9), .mv (.t 0), none, []⟩,
        ⟨(some 10), .capn (.t 9), none, []⟩,
        ⟨(some 11), .cn (.t 0), none, []⟩,
        ⟨(some 12), .len false (.t 11), none, []⟩,
        ⟨(some 13), .bin .plain .sub (.t 10) (.t 12), none, []⟩,
        ⟨(some 14), .bin .plain .sub (.t 8) (.t 13), none, []⟩,
        ⟨(some 1), .mv (.t 14), none, []⟩])
      (.seq
       (.reg [] [
         ⟨(some 15), .mv (.t 1), none, []⟩,
         ⟨(some 16), .bin .plain .gtr (.t 15) (.k (.int .i64 0)), none, []⟩])
       (.cond (.t 16)
        (.reg [] [
          ⟨(some 17), .mv (.t 0), none, []⟩,
          ⟨(some 18), .mv (.t 0), none, []⟩,
          ⟨(some 19), .capn (.t 18), none, []⟩,
          ⟨(some 20), .trunc 0 (.t 17) (.t 19), none, []⟩,
          ⟨(some 21), .mv (.t 1), none, []⟩,
          ⟨(some 22), .appz 1 ty_uint8 1 1 [(.int .u8 0)] (.t 20) (.t 21), none, []⟩,
          ⟨(some 23), .cn (.t 0), none, [0]⟩,
          ⟨(some 24), .len false (.t 23), none, []⟩,
          ⟨(some 25), .trunc 2 (.t 22) (.t 24), none, []⟩,
          ⟨(some 0), .mv (.t 25), none, []⟩])
        .skip)))
     (.seq
      (.reg [] [
        ⟨(some 26), .mv (.t 0), none, []⟩,
        ⟨(some 4), .mv (.t 26), none, []⟩])
      (.ret i_slices_Grow_sl_byte_byte_r))))),
  [.tmp 4], [true], false, [true, false]⟩

def i_digest_None_r : List Bool := [true, false]
/-- heartwood/digest.None -/
def i_digest_None : Ev.Fn := ⟨0, 2, 0,
  (.seq
   (.reg [] [
     ⟨(some 0), .cn (.k (.slice none 0 0)), none, []⟩])
   (.seq
    (.reg [] [
      ⟨(some 1), .litd 1 1 [(.int .u8 0)] [(0, (.k (.int .u8 3)))], none, []⟩,
      ⟨(some 0), .cn (.t 1), none, []⟩])
    (.ret i_digest_None_r))),
  [.tmp 0], [], false, []⟩

def i_digest_Value_r : List Bool := [false, false, true, false, false, false]
/-- heartwood/digest.Value -/
def i_digest_Value : Ev.Fn := ⟨1, 6, 1,
  (.seq
   (.reg [] [
     ⟨(some 2), .mv (.k (.slice none 0 0)), none, []⟩])
   (.seq
    (.reg [] [
      ⟨(some 3), .lit 0 ty_uint8 1 1 [(.int .u8 0)] [(0, (.k (.int .u8 0)))], none, []⟩,
      ⟨(some 4), .cn (.t 0), none, []⟩,
      ⟨(some 5), .app 0 ty_uint8 1 1 (.t 3) (.t 4), none, []⟩,
      ⟨(some 2), .mv (.t 5), none, []⟩])
    (.ret i_digest_Value_r))),
  [.tmp 2], [true], false, []⟩

def i_digest_Of_r : List Bool := [false, false, false, false, true, true, false, false, false, false, false, false, false, false, false]
/-- heartwood/digest.Of -/
def i_digest_Of : Ev.Fn := ⟨2, 15, 1,
  (.seq
   (.reg [] [
     ⟨(some 4), .mv (.k (.slice none 0 0)), none, []⟩,
     ⟨(some 5), .mv (.k .nilIface), none, []⟩])
   (.seq
    (.seq
     (.reg [] [
       ⟨(some 6), .mv (.t 0), none, []⟩,
       ⟨(some 7), .qcall n_digest_width [(.t 6)] [], none, []⟩,
       ⟨(some 8), .un .not (.t 7), none, []⟩])
     (.cond (.t 8)
      (.seq
       (.reg [] [
         ⟨(some 9), .mki ty_api_Code (.k (.int .i64 1)), none, []⟩,
         ⟨(some 4), .mv (.k (.slice none 0 0)), none, []⟩,
         ⟨(some 5), .mv (.t 9), none, []⟩])
       (.ret i_digest_Of_r))
      .skip))
    (.seq
     (.reg [] [
       ⟨(some 10), .cn (.t 1), none, []⟩,
       ⟨(some 11), .qcall n_sha_Sum [(.t 10)] [], none, []⟩,
       ⟨(some 12), .mv (.t 0), none, []⟩,
       ⟨(some 13), .slice 1 (.t 11) none (some (.t 12)) none, none, []⟩,
       ⟨(some 14), .qcall n_slices_Clone_sl_byte_byte [(.t 13)] [0], none, []⟩,
       ⟨(some 4), .mv (.t 14), none, []⟩,
       ⟨(some 5), .mv (.k .nilIface), none, []⟩])
     (.ret i_digest_Of_r)))),
  [.tmp 4, .tmp 5], [true, false], false, []⟩

def i_sha_Sum_r : List Bool := [false, false, true, false, false, false, false, false, false, false, false, false, false, false, false, false, false, false, false, false, false, false, false, false, false, false, false, false, false, false, false, false, false, false, false, false, false, false, false, false, false, false, false, false, false, false, false, false, false, false, false, false, false, false, false, false, false, false, false, false, false, false, false, false, false, false, false, false, false, false, false, false, false, false, false, false]
def i_sha_Sum_j3 : List Bool := [false, false, false, false, false, false, false, true, false, true, false, false, false, false, false, false, false, false, false, false, false, false, false, false, false, false, false, false, false, false, false, false, false, false, false, false, false, true, true, false, false, false, false, false, false, false, false, false, false, false, false, false, false, false, false, false, false, false, false, false, false, false, false, false, false, false, false, false, false, false, false, false, false, false, false, false]
def i_sha_Sum_k1 : List Bool := [false, false, false, false, false, false, false, true, false, true, false, false, false, false, false, false, false, false, false, false, false, false, false, false, false, false, false, false, false, false, false, false, false, false, false, false, false, true, true, false, false, false, false, false, false, false, false, false, false, false, false, false, false, false, false, false, false, false, false, false, false, false, false, false, false, false, false, false, false, false, false, false, false, false, false, false]
def i_sha_Sum_j2 : List Bool := [false, false, false, false, false, false, false, true, false, false, false, false, false, false, false, false, false, false, false, false, false, false, false, false, false, false, false, false, false, false, false, false, false, false, false, false, false, true, true, false, false, false, false, false, false, false, false, false, false, false, false, false, false, false, false, false, false, false, false, false, false, false, false, false, false, false, false, false, false, false, false, false, false, false, false, false]
def i_sha_Sum_j1 : List Bool := [false, false, false, false, false, false, false, true, false, false, false, false, false, false, false, false, false, false, false, false, false, false, false, false, false, false, false, false, false, false, false, false, false, false, false, false, false, true, true, false, false, false, false, false, false, false, false, false, false, false, false, false, false, false, false, false, false, false, false, false, false, false, false, false, false, false, false, false, false, false, false, false, false, false, false, false]
def i_sha_Sum_k0 : List Bool := [false, false, false, false, false, false, false, true, false, false, false, false, false, false, false, false, false, false, false, false, false, false, false, false, false, false, false, false, false, false, false, false, false, false, false, false, false, true, true, false, false, false, false, false, false, false, false, false, false, false, false, false, false, false, false, false, false, false, false, false, false, false, false, false, false, false, false, false, false, false, false, false, false, false, false, false]
def i_sha_Sum_j0 : List Bool := [false, false, false, false, false, false, false, true, false, false, false, false, false, false, false, false, false, false, false, false, false, false, false, false, false, false, false, false, false, false, false, false, false, false, false, false, false, false, false, false, false, false, false, false, false, false, false, false, false, false, false, false, false, false, false, false, false, false, false, false, false, false, false, false, false, false, false, false, false, false, false, false, false, false, false, false]
def i_sha_Sum_j5 : List Bool := [false, false, false, false, false, false, false, false, false, false, true, false, false, false, false, false, false, false, false, false, false, false, false, false, false, false, false, false, false, false, false, false, false, false, false, false, false, false, false, false, false, false, false, false, false, false, false, false, false, false, false, false, false, false, false, false, true, true, false, false, false, false, false, false, false, false, false, false, false, false, false, false, false, false, false, false]
def i_sha_Sum_k2 : List Bool := [false, false, false, false, false, false, false, false, false, false, true, false, false, false, false, false, false, false, false, false, false, false, false, false, false, false, false, false, false, false, false, false, false, false, false, false, false, false, false, false, false, false, false, false, false, false, false, false, false, false, false, false, false, false, false, false, true, true, false, false, false, false, false, false, false, false, false, false, false, false, false, false, false, false, false, false]
def i_sha_Sum_j4 : List Bool := [false, false, false, false, false, false, false, false, false, false, true, false, false, false, false, false, false, false, false, false, false, false, false, false, false, false, false, false, false, false, false, false, false, false, false, false, false, false, false, false, false, false, false, false, false, false, false, false, false, false, false, false, false, false, false, false, false, false, false, false, false, false, false, false, false, false, false, false, false, false, false, false, false, false, false, false]
abbrev s_sha_Sum_R (t2 : AV) (h : Heap) : St := ⟨[.undef, .undef, t2, .undef, .undef, .undef, .undef, .undef, .undef, .undef, .undef, .undef, .undef, .undef, .undef, .undef, .undef, .undef, .undef, .undef, .undef, .undef, .undef, .undef, .undef, .undef, .undef, .undef, .undef, .undef, .undef, .undef, .undef, .undef, .undef, .undef, .undef, .undef, .undef, .undef, .undef, .undef, .undef, .undef, .undef, .undef, .undef, .undef, .undef, .undef, .undef, .undef, .undef, .undef, .undef, .undef, .undef, .undef, .undef, .undef, .undef, .undef, .undef, .undef, .undef, .undef, .undef, .undef, .undef, .undef, .undef, .undef, .undef, .undef, .undef, .undef], h⟩
abbrev s_sha_Sum_K1 (t7 t9 t37 t38 : AV) (h : Heap) : St := ⟨[.undef, .undef, .undef, .undef, .undef, .undef, .undef, t7, .undef, t9, .undef, .undef, .undef, .undef, .undef, .undef, .undef, .undef, .undef, .undef, .undef, .undef, .undef, .undef, .undef, .undef, .undef, .undef, .undef, .undef, .undef, .undef, .undef, .undef, .undef, .undef, .undef, t37, t38, .undef, .undef, .undef, .undef, .undef, .undef, .undef, .undef, .undef, .undef, .undef, .undef, .undef, .undef, .undef, .undef, .undef, .undef, .undef, .undef, .undef, .undef, .undef, .undef, .undef, .undef, .undef, .undef, .undef, .undef, .undef, .undef, .undef, .undef, .undef, .undef, .undef], h⟩
def i_sha_Sum_b1 : IR :=
  (.seq
   (.seq
    (.reg [] [
      ⟨(some 41), .cn (.t 9), none, []⟩,
      ⟨(some 42), .len false (.t 41), none, []⟩,
      ⟨(some 43), .bin .plain .gtr (.t 42) (.k (.int .i64 0)), none, []⟩])
    (.cond (.t 43)
     .skip
     (.exit 2 i_sha_Sum_j2)))
   (.seq
    (.block 3 i_sha_Sum_j3
     (.seq
      (.reg [] [
        ⟨(some 47), .load true 8 (.t 7), none, []⟩,
        ⟨(some 48), .cn (.t 9), none, []⟩,
        ⟨(some 49), .slice 1 (.t 48) none (some (.k (.int .i64 64))) none, none, []⟩,
        ⟨(some 50), .qcall n_sha_Step [(.t 47), (.t 49)] [], none, []⟩,
        ⟨(some 46), .mv (.t 50), none, []⟩,
        ⟨(some 51), .ext 0 (.t 46), none, []⟩,
        ⟨(some 52), .ext 1 (.t 46), none, []⟩,
        ⟨none, .store 8 (.t 7) (.t 51), none, []⟩,
        ⟨(some 4), .mv (.t 52), none, []⟩])
      (.seq
       (.reg [] [
         ⟨(some 53), .mv (.t 4), none, []⟩,
         ⟨(some 54), .bin (.iface ty_api_Code true) .neq (.t 53) (.k .nilIface), none, []⟩])
       (.cond (.t 54)
        (.seq
         (.reg [] [
           ⟨(some 2), .cn (.k (.slice none 0 0)), none, []⟩])
         (.ret i_sha_Sum_r))
        .skip))))
    (.reg [] [
      ⟨(some 44), .cn (.t 9), none, []⟩,
      ⟨(some 45), .slice 1 (.t 44) (some (.k (.int .i64 64))) none none, none, []⟩,
      ⟨(some 9), .cn (.t 45), none, []⟩])))

abbrev s_sha_Sum_J2 (t7 t37 t38 : AV) (h : Heap) : St := ⟨[.undef, .undef, .undef, .undef, .undef, .undef, .undef, t7, .undef, .undef, .undef, .undef, .undef, .undef, .undef, .undef, .undef, .undef, .undef, .undef, .undef, .undef, .undef, .undef, .undef, .undef, .undef, .undef, .undef, .undef, .undef, .undef, .undef, .undef, .undef, .undef, .undef, t37, t38, .undef, .undef, .undef, .undef, .undef, .undef, .undef, .undef, .undef, .undef, .undef, .undef, .undef, .undef, .undef, .undef, .undef, .undef, .undef, .undef, .undef, .undef, .undef, .undef, .undef, .undef, .undef, .undef, .undef, .undef, .undef, .undef, .undef, .undef, .undef, .undef, .undef], h⟩
abbrev s_sha_Sum_J1 (t7 t37 t38 : AV) (h : Heap) : St := ⟨[.undef, .undef, .undef, .undef, .undef, .undef, .undef, t7, .undef, .undef, .undef, .undef, .undef, .undef, .undef, .undef, .undef, .undef, .undef, .undef, .undef, .undef, .undef, .undef, .undef, .undef, .undef, .undef, .undef, .undef, .undef, .undef, .undef, .undef, .undef, .undef, .undef, t37, t38, .undef, .undef, .undef, .undef, .undef, .undef, .undef, .undef, .undef, .undef, .undef, .undef, .undef, .undef, .undef, .undef, .undef, .undef, .undef, .undef, .undef, .undef, .undef, .undef, .undef, .undef, .undef, .undef, .undef, .undef, .undef, .undef, .undef, .undef, .undef, .undef, .undef], h⟩
abbrev s_sha_Sum_K0 (t7 t37 t38 : AV) (h : Heap) : St := ⟨[.undef, .undef, .undef, .undef, .undef, .undef, .undef, t7, .undef, .undef, .undef, .undef, .undef, .undef, .undef, .undef, .undef, .undef, .undef, .undef, .undef, .undef, .undef, .undef, .undef, .undef, .undef, .undef, .undef, .undef, .undef, .undef, .undef, .undef, .undef, .undef, .undef, t37, t38, .undef, .undef, .undef, .undef, .undef, .undef, .undef, .undef, .undef, .undef, .undef, .undef, .undef, .undef, .undef, .undef, .undef, .undef, .undef, .undef, .undef, .undef, .undef, .undef, .undef, .undef, .undef, .undef, .undef, .undef, .undef, .undef, .undef, .undef, .undef, .undef, .undef], h⟩
def i_sha_Sum_b0 : IR :=
  (.seq
   (.reg [] [
     ⟨(some 39), .bin .plain .lss (.t 38) (.k (.int .i64 2)), none, []⟩])
   (.seq
    (.cond (.t 39)
     .skip
     (.exit 0 i_sha_Sum_j0))
    (.seq
     (.block 1 i_sha_Sum_j1
      (.seq
       (.reg [] [
         ⟨(some 40), .ix 2 1 false (.t 37) (.t 38), none, []⟩,
         ⟨(some 9), .cn (.t 40), none, []⟩])
       (.block 2 i_sha_Sum_j2
        (.loop i_sha_Sum_k1 i_sha_Sum_b1))))
     (.reg [] [
       ⟨(some 55), .bin .plain .add (.t 38) (.k (.int .i64 1)), none, []⟩,
       ⟨(some 38), .mv (.t 55), none, []⟩]))))

abbrev s_sha_Sum_J0 (t7 : AV) (h : Heap) : St := ⟨[.undef, .undef, .undef, .undef, .undef, .undef, .undef, t7, .undef, .undef, .undef, .undef, .undef, .undef, .undef, .undef, .undef, .undef, .undef, .undef, .undef, .undef, .undef, .undef, .undef, .undef, .undef, .undef, .undef, .undef, .undef, .undef, .undef, .undef, .undef, .undef, .undef, .undef, .undef, .undef, .undef, .undef, .undef, .undef, .undef, .undef, .undef, .undef, .undef, .undef, .undef, .undef, .undef, .undef, .undef, .undef, .undef, .undef, .undef, .undef, .undef, .undef, .undef, .undef, .undef, .undef, .undef, .undef, .undef, .undef, .undef, .undef, .undef, .undef, .undef, .undef], h⟩
abbrev s_sha_Sum_K2 (t10 t56 t57 : AV) (h : Heap) : St := ⟨[.undef, .undef, .undef, .undef, .undef, .undef, .undef, .undef, .undef, .undef, t10, .undef, .undef, .undef, .undef, .undef, .undef, .undef, .undef, .undef, .undef, .undef, .undef, .undef, .undef, .undef, .undef, .undef, .undef, .undef, .undef, .undef, .undef, .undef, .undef, .undef, .undef, .undef, .undef, .undef, .undef, .undef, .undef, .undef, .undef, .undef, .undef, .undef, .undef, .undef, .undef, .undef, .undef, .undef, .undef, .undef, t56, t57, .undef, .undef, .undef, .undef, .undef, .undef, .undef, .undef, .undef, .undef, .undef, .undef, .undef, .undef, .undef, .undef, .undef, .undef], h⟩
def i_sha_Sum_b2 : IR :=
  (.seq
   (.reg [] [
     ⟨(some 58), .bin .plain .lss (.t 57) (.k (.int .i64 8)), none, []⟩])
   (.seq
    (.cond (.t 58)
     .skip
     (.exit 4 i_sha_Sum_j4))
    (.seq
     (.block 5 i_sha_Sum_j5
      (.seq
       (.reg [] [
         ⟨(some 59), .ix 8 1 false (.t 56) (.t 57), none, []⟩,
         ⟨(some 12), .mv (.t 59), none, []⟩])
       (.reg [] [
         ⟨(some 60), .mv (.t 10), none, []⟩,
         ⟨(some 61), .mv (.t 12), none, []⟩,
         ⟨(some 62), .bin .plain .shr (.t 61) (.k (.int .u64 24)), none, []⟩,
         ⟨(some 63), .conv .u8 (.t 62), none, []⟩,
         ⟨(some 64), .mv (.t 12), none, []⟩,
         ⟨(some 65), .bin .plain .shr (.t 64) (.k (.int .u64 16)), none, []⟩,
         ⟨(some 66), .conv .u8 (.t 65), none, []⟩,
         ⟨(some 67), .mv (.t 12), none, []⟩,
         ⟨(some 68), .bin .plain .shr (.t 67) (.k (.int .u64 8)), none, []⟩,
         ⟨(some 69), .conv .u8 (.t 68), none, []⟩,
         ⟨(some 70), .mv (.t 12), none, []⟩,
         ⟨(some 71), .conv .u8 (.t 70), none, []⟩,
         ⟨(some 72), .litd 1 4 [(.int .u8 0)] [(0, (.t 63)), (1, (.t 66)), (2, (.t 69)), (3, (.t 71))], none, []⟩,
         ⟨(some 73), .app 2 ty_uint8 1 1 (.t 60) (.t 72), none, []⟩,
         ⟨(some 10), .mv (.t 73), none, []⟩])))
     (.reg [] [
       ⟨(some 74), .bin .plain .add (.t 57) (.k (.int .i64 1)), none, []⟩,
       ⟨(some 57), .mv (.t 74), none, []⟩]))))

abbrev s_sha_Sum_J4 (t10 : AV) (h : Heap) : St := ⟨[.undef, .undef, .undef, .undef, .undef, .undef, .undef, .undef, .undef, .undef, t10, .undef, .undef, .undef, .undef, .undef, .undef, .undef, .undef, .undef, .undef, .undef, .undef, .undef, .undef, .undef, .undef, .undef, .undef, .undef, .undef, .undef, .undef, .undef, .undef, .undef, .undef, .undef, .undef, .undef, .undef, .undef, .undef, .undef, .undef, .undef, .undef, .undef, .undef, .undef, .undef, .undef, .undef, .undef, .undef, .undef, .undef, .undef, .undef, .undef, .undef, .undef, .undef, .undef, .undef, .undef, .undef, .undef, .undef, .undef, .undef, .undef, .undef, .undef, .undef, .undef], h⟩
/-- heartwood/sha.Sum -/
def i_sha_Sum : Ev.Fn := ⟨1, 76, 3,
  (.seq
   (.reg [] [
     ⟨(some 2), .cn (.k (.slice none 0 0)), none, []⟩])
   (.seq
    (.reg [] [
      ⟨(some 14), .cn (.t 0), none, []⟩,
      ⟨(some 15), .len false (.t 14), none, []⟩,
      ⟨(some 16), .qcall n_sha_Tail [(.t 15)] [], none, []⟩,
      ⟨(some 13), .mv (.t 16), none, []⟩,
      ⟨(some 17), .ext 0 (.t 13), none, []⟩,
      ⟨(some 18), .ext 1 (.t 13), none, []⟩,
      ⟨(some 3), .cn (.t 17), none, []⟩,
      ⟨(some 4), .mv (.t 18), none, []⟩])
    (.seq
     (.seq
      (.reg [] [
        ⟨(some 19), .mv (.t 4), none, []⟩,
        ⟨(some 20), .bin (.iface ty_api_Code true) .neq (.t 19) (.k .nilIface), none, []⟩])
      (.cond (.t 20)
       (.seq
        (.reg [] [
          ⟨(some 2), .cn (.k (.slice none 0 0)), none, []⟩])
        (.ret i_sha_Sum_r))
       .skip))
     (.seq
      (.reg [] [
        ⟨(some 21), .cn (.t 0), none, []⟩,
        ⟨(some 22), .len false (.t 21), none, []⟩,
        ⟨(some 23), .bin .plain .quo (.t 22) (.k (.int .i64 64)), none, []⟩,
        ⟨(some 24), .bin .plain .mul (.t 23) (.k (.int .i64 64)), none, []⟩,
        ⟨(some 5), .mv (.t 24), none, []⟩])
      (.seq
       (.reg [] [
         ⟨(some 25), .lit 0 ty_uint8 1 0 [(.int .u8 0)] [], none, []⟩,
         ⟨(some 26), .cn (.t 0), none, []⟩,
         ⟨(some 27), .mv (.t 5), none, []⟩,
         ⟨(some 28), .slice 1 (.t 26) (some (.t 27)) none none, none, []⟩,
         ⟨(some 29), .app 0 ty_uint8 1 1 (.t 25) (.t 28), none, []⟩,
         ⟨(some 30), .cn (.t 3), none, []⟩,
         ⟨(some 31), .app 0 ty_uint8 1 1 (.t 29) (.t 30), none, []⟩,
         ⟨(some 6), .cn (.t 31), none, [31]⟩])
       (.seq
        (.reg [] [
          ⟨(some 32), .load true 8 (.g 0), none, []⟩,
          ⟨(some 7), .new 1 [(.int .u32 0), (.int .u32 0), (.int .u32 0), (.int .u32 0), (.int .u32 0), (.int .u32 0), (.int .u32 0), (.int .u32 0)], none, []⟩,
          ⟨none, .store 8 (.t 7) (.t 32), none, []⟩])
        (.seq
         (.seq
          (.reg [] [
            ⟨(some 33), .cn (.t 0), none, []⟩,
            ⟨(some 34), .mv (.t 5), none, []⟩,
            ⟨(some 35), .slice 1 (.t 33) none (some (.t 34)) none, none, []⟩,
            ⟨(some 36), .cn (.t 6), none, []⟩,
            ⟨(some 37), .build [(.slice none 0 0), (.slice none 0 0)] [(0, 1, (.t 35)), (1, 1, (.t 36))], none, []⟩,
            ⟨(some 38), .mv (.k (.int .i64 0)), none, []⟩])
          (.block 0 i_sha_Sum_j0
           (.loop i_sha_Sum_k0 i_sha_Sum_b0)))
         (.seq
          (.reg [] [
            ⟨(some 10), .mv (.k (.slice none 0 0)), none, []⟩])
          (.seq
           (.seq
            (.reg [] [
              ⟨(some 56), .load true 8 (.t 7), none, []⟩,
              ⟨(some 57), .mv (.k (.int .i64 0)), none, []⟩])
            (.block 4 i_sha_Sum_j4
             (.loop i_sha_Sum_k2 i_sha_Sum_b2)))
           (.seq
            (.reg [] [
              ⟨(some 75), .cn (.t 10), none, [10]⟩,
              ⟨(some 2), .cn (.t 75), none, [75]⟩])
            (.ret i_sha_Sum_r))))))))))),
  [.tmp 2], [], false, []⟩

def i_sha_Tail_r : List Bool := [false, false, true, true, false, false, false, false, false, false, false, false, false, false, false, false, false, false, false, false, false, false, false, false, false, false, false, false, false, false, false, false, false, false, false, false, false]
def i_sha_Tail_j1 : List Bool := [true, false, false, false, true, false, false, false, false, false, false, false, false, false, false, false, false, false, false, false, false, false, false, false, false, false, false, false, false, false, false, false, false, false, false, false, false]
def i_sha_Tail_k0 : List Bool := [true, false, false, false, true, false, false, false, false, false, false, false, false, false, false, false, false, false, false, false, false, false, false, false, false, false, false, false, false, false, false, false, false, false, false, false, false]
def i_sha_Tail_j0 : List Bool := [true, false, false, false, true, false, false, false, false, false, false, false, false, false, false, false, false, false, false, false, false, false, false, false, false, false, false, false, false, false, false, false, false, false, false, false, false]
def i_sha_Tail_j3 : List Bool := [true, false, false, false, true, true, false, false, false, false, false, false, false, false, false, false, false, false, false, false, false, false, false, false, false, false, false, false, false, false, false, false, false, false, false, false, false]
def i_sha_Tail_k1 : List Bool := [true, false, false, false, true, true, false, false, false, false, false, false, false, false, false, false, false, false, false, false, false, false, false, false, false, false, false, false, false, false, false, false, false, false, false, false, false]
def i_sha_Tail_j2 : List Bool := [false, false, false, false, true, false, false, false, false, false, false, false, false, false, false, false, false, false, false, false, false, false, false, false, false, false, false, false, false, false, false, false, false, false, false, false, false]
abbrev s_sha_Tail_R (t2 t3 : AV) (h : Heap) : St := ⟨[.undef, .undef, t2, t3, .undef, .undef, .undef, .undef, .undef, .undef, .undef, .undef, .undef, .undef, .undef, .undef, .undef, .undef, .undef, .undef, .undef, .undef, .undef, .undef, .undef, .undef, .undef, .undef, .undef, .undef, .undef, .undef, .undef, .undef, .undef, .undef, .undef], h⟩
abbrev s_sha_Tail_K0 (t0 t4 : AV) (h : Heap) : St := ⟨[t0, .undef, .undef, .undef, t4, .undef, .undef, .undef, .undef, .undef, .undef, .undef, .undef, .undef, .undef, .undef, .undef, .undef, .undef, .undef, .undef, .undef, .undef, .undef, .undef, .undef, .undef, .undef, .undef, .undef, .undef, .undef, .undef, .undef, .undef, .undef, .undef], h⟩
def i_sha_Tail_b0 : IR :=
  (.seq
   (.seq
    (.reg [] [
      ⟨(some 14), .mv (.t 0), none, []⟩,
      ⟨(some 15), .cn (.t 4), none, []⟩,
      ⟨(some 16), .len false (.t 15), none, []⟩,
      ⟨(some 17), .bin .plain .add (.t 14) (.t 16), none, []⟩,
      ⟨(some 18), .bin .plain .rem (.t 17) (.k (.int .i64 64)), none, []⟩,
      ⟨(some 19), .bin .plain .neq (.t 18) (.k (.int .i64 56)), none, []⟩])
    (.cond (.t 19)
     .skip
     (.exit 0 i_sha_Tail_j0)))
   (.block 1 i_sha_Tail_j1
    (.reg [] [
      ⟨(some 20), .mv (.t 4), none, []⟩,
      ⟨(some 21), .litd 1 1 [(.int .u8 0)] [(0, (.k (.int .u8 0)))], none, []⟩,
      ⟨(some 22), .app 0 ty_uint8 1 1 (.t 20) (.t 21), none, []⟩,
      ⟨(some 4), .mv (.t 22), none, []⟩])))

abbrev s_sha_Tail_J0 (t0 t4 : AV) (h : Heap) : St := ⟨[t0, .undef, .undef, .undef, t4, .undef, .undef, .undef, .undef, .undef, .undef, .undef, .undef, .undef, .undef, .undef, .undef, .undef, .undef, .undef, .undef, .undef, .undef, .undef, .undef, .undef, .undef, .undef, .undef, .undef, .undef, .undef, .undef, .undef, .undef, .undef, .undef], h⟩
abbrev s_sha_Tail_K1 (t0 t4 t5 : AV) (h : Heap) : St := ⟨[t0, .undef, .undef, .undef, t4, t5, .undef, .undef, .undef, .undef, .undef, .undef, .undef, .undef, .undef, .undef, .undef, .undef, .undef, .undef, .undef, .undef, .undef, .undef, .undef, .undef, .undef, .undef, .undef, .undef, .undef, .undef, .undef, .undef, .undef, .undef, .undef], h⟩
def i_sha_Tail_b1 : IR :=
  (.seq
   (.seq
    (.reg [] [
      ⟨(some 23), .mv (.t 5), none, []⟩,
      ⟨(some 24), .bin .plain .geq (.t 23) (.k (.int .i64 0)), none, []⟩])
    (.cond (.t 24)
     .skip
     (.exit 2 i_sha_Tail_j2)))
   (.seq
    (.block 3 i_sha_Tail_j3
     (.reg [] [
       ⟨(some 27), .mv (.t 4), none, []⟩,
       ⟨(some 28), .mv (.t 0), none, []⟩,
       ⟨(some 29), .conv .u64 (.t 28), none, []⟩,
       ⟨(some 30), .bin .plain .mul (.k (.int .u64 8)) (.t 29), none, []⟩,
       ⟨(some 31), .mv (.t 5), none, []⟩,
       ⟨(some 32), .bin .plain .shr (.t 30) (.t 31), none, []⟩,
       ⟨(some 33), .conv .u8 (.t 32), none, []⟩,
       ⟨(some 34), .litd 1 1 [(.int .u8 0)] [(0, (.t 33))], none, []⟩,
       ⟨(some 35), .app 0 ty_uint8 1 1 (.t 27) (.t 34), none, []⟩,
       ⟨(some 4), .mv (.t 35), none, []⟩]))
    (.reg [] [
      ⟨(some 25), .mv (.t 5), none, []⟩,
      ⟨(some 26), .bin .plain .sub (.t 25) (.k (.int .i64 8)), none, []⟩,
      ⟨(some 5), .mv (.t 26), none, []⟩])))

abbrev s_sha_Tail_J2 (t4 : AV) (h : Heap) : St := ⟨[.undef, .undef, .undef, .undef, t4, .undef, .undef, .undef, .undef, .undef, .undef, .undef, .undef, .undef, .undef, .undef, .undef, .undef, .undef, .undef, .undef, .undef, .undef, .undef, .undef, .undef, .undef, .undef, .undef, .undef, .undef, .undef, .undef, .undef, .undef, .undef, .undef], h⟩
/-- heartwood/sha.Tail -/
def i_sha_Tail : Ev.Fn := ⟨1, 37, 1,
  (.seq
   (.reg [] [
     ⟨(some 2), .cn (.k (.slice none 0 0)), none, []⟩,
     ⟨(some 3), .mv (.k .nilIface), none, []⟩])
   (.seq
    (.seq
     (.reg [] [
       ⟨(some 6), .mv (.t 0), none, []⟩,
       ⟨(some 7), .bin .plain .lss (.t 6) (.k (.int .i64 0)), none, []⟩,
       ⟨(some 8), .mv (.t 7), none, []⟩,
       ⟨(some 9), .mv (.t 0), (some (8, false)), []⟩,
       ⟨(some 10), .bin .plain .gtr (.t 9) (.k (.int .i64 1125899906842624)), (some (8, false)), []⟩,
       ⟨(some 11), .pick (.t 8) (.k (.bool true)) (.t 10), none, []⟩])
     (.cond (.t 11)
      (.seq
       (.reg [] [
         ⟨(some 12), .mki ty_api_Code (.k (.int .i64 1)), none, []⟩,
         ⟨(some 2), .cn (.k (.slice none 0 0)), none, []⟩,
         ⟨(some 3), .mv (.t 12), none, []⟩])
       (.ret i_sha_Tail_r))
      .skip))
    (.seq
     (.reg [] [
       ⟨(some 13), .lit 0 ty_uint8 1 1 [(.int .u8 0)] [(0, (.k (.int .u8 128)))], none, []⟩,
       ⟨(some 4), .mv (.t 13), none, []⟩])
     (.seq
      (.block 0 i_sha_Tail_j0
       (.loop i_sha_Tail_k0 i_sha_Tail_b0))
      (.seq
       (.seq
        (.reg [] [
          ⟨(some 5), .mv (.k (.int .i64 56)), none, []⟩])
        (.block 2 i_sha_Tail_j2
         (.loop i_sha_Tail_k1 i_sha_Tail_b1)))
       (.seq
        (.reg [] [
          ⟨(some 36), .cn (.t 4), none, [4]⟩,
          ⟨(some 2), .cn (.t 36), none, [36]⟩,
          ⟨(some 3), .mv (.k .nilIface), none, []⟩])
        (.ret i_sha_Tail_r))))))),
  [.tmp 2, .tmp 3], [], false, []⟩

def i_sha_Step_r : List Bool := [false, false, false, false, true, true, false, false, false, false, false, false, false, false, false, false, false, false, false, false, false, false, false, false, false, false, false, false, false, false, false, false, false, false, false, false, false, false, false, false, false, false, false, false, false, false, false, false, false]
def i_sha_Step_j1 : List Bool := [false, false, true, false, true, false, false, false, true, false, false, false, false, false, false, false, false, false, false, false, false, false, true, true, true, false, false, false, false, false, false, false, false, false, false, false, false, false, false, false, false, false, false, false, false, false, false, false, false]
def i_sha_Step_k0 : List Bool := [false, false, true, false, true, false, false, false, true, false, false, false, false, false, false, false, false, false, false, false, false, false, true, true, true, false, false, false, false, false, false, false, false, false, false, false, false, false, false, false, false, false, false, false, false, false, false, false, false]
def i_sha_Step_j0 : List Bool := [false, false, true, false, true, false, false, false, true, false, false, false, false, false, false, false, false, false, false, false, false, false, false, false, false, false, false, false, false, false, false, false, false, false, false, false, false, false, false, false, false, false, false, false, false, false, false, false, false]
def i_sha_Step_j3 : List Bool := [false, false, true, false, true, false, false, false, true, false, false, false, false, false, false, false, false, false, false, false, false, false, false, false, false, false, false, false, false, false, false, false, false, false, false, false, true, false, false, false, false, false, false, false, false, false, false, false, false]
def i_sha_Step_k1 : List Bool := [false, false, true, false, true, false, false, false, true, false, false, false, false, false, false, false, false, false, false, false, false, false, false, false, false, false, false, false, false, false, false, false, false, false, false, false, true, false, false, false, false, false, false, false, false, false, false, false, false]
def i_sha_Step_j2 : List Bool := [false, false, true, false, true, false, false, false, false, false, false, false, false, false, false, false, false, false, false, false, false, false, false, false, false, false, false, false, false, false, false, false, false, false, false, false, false, false, false, false, false, false, false, false, false, false, false, false, false]
abbrev s_sha_Step_R (t4 t5 : AV) (h : Heap) : St := ⟨[.undef, .undef, .undef, .undef, t4, t5, .undef, .undef, .undef, .undef, .undef, .undef, .undef, .undef, .undef, .undef, .undef, .undef, .undef, .undef, .undef, .undef, .undef, .undef, .undef, .undef, .undef, .undef, .undef, .undef, .undef, .undef, .undef, .undef, .undef, .undef, .undef, .undef, .undef, .undef, .undef, .undef, .undef, .undef, .undef, .undef, .undef, .undef, .undef], h⟩
abbrev s_sha_Step_K0 (t2 t4 t8 t22 t23 t24 : AV) (h : Heap) : St := ⟨[.undef, .undef, t2, .undef, t4, .undef, .undef, .undef, t8, .undef, .undef, .undef, .undef, .undef, .undef, .undef, .undef, .undef, .undef, .undef, .undef, .undef, t22, t23, t24, .undef, .undef, .undef, .undef, .undef, .undef, .undef, .undef, .undef, .undef, .undef, .undef, .undef, .undef, .undef, .undef, .undef, .undef, .undef, .undef, .undef, .undef, .undef, .undef], h⟩
def i_sha_Step_b0 : IR :=
  (.seq
   (.reg [] [
     ⟨(some 25), .bin .plain .lss (.t 24) (.t 23), none, []⟩])
   (.seq
    (.cond (.t 25)
     .skip
     (.exit 0 i_sha_Step_j0))
    (.seq
     (.block 1 i_sha_Step_j1
      (.seq
       (.reg [] [
         ⟨(some 26), .mv (.t 24), none, []⟩,
         ⟨(some 27), .ia 1 (.t 22) (.t 24), none, []⟩,
         ⟨(some 28), .load false 1 (.t 27), none, []⟩,
         ⟨(some 9), .mv (.t 26), none, []⟩,
         ⟨(some 10), .mv (.t 28), none, []⟩])
       (.reg [] [
         ⟨(some 29), .load true 8 (.t 8), none, []⟩,
         ⟨(some 30), .mv (.t 9), none, []⟩,
         ⟨(some 31), .iap 64 1 (.g 1) (.t 30), none, []⟩,
         ⟨(some 32), .load false 1 (.t 31), none, []⟩,
         ⟨(some 33), .mv (.t 10), none, []⟩,
         ⟨(some 34), .qcall n_sha_Round [(.t 29), (.t 32), (.t 33)] [], none, []⟩,
         ⟨none, .store 8 (.t 8) (.t 34), none, []⟩])))
     (.reg [] [
       ⟨(some 35), .bin .plain .add (.t 24) (.k (.int .i64 1)), none, []⟩,
       ⟨(some 24), .mv (.t 35), none, []⟩]))))

abbrev s_sha_Step_J0 (t2 t4 t8 : AV) (h : Heap) : St := ⟨[.undef, .undef, t2, .undef, t4, .undef, .undef, .undef, t8, .undef, .undef, .undef, .undef, .undef, .undef, .undef, .undef, .undef, .undef, .undef, .undef, .undef, .undef, .undef, .undef, .undef, .undef, .undef, .undef, .undef, .undef, .undef, .undef, .undef, .undef, .undef, .undef, .undef, .undef, .undef, .undef, .undef, .undef, .undef, .undef, .undef, .undef, .undef, .undef], h⟩
abbrev s_sha_Step_K1 (t2 t4 t8 t36 : AV) (h : Heap) : St := ⟨[.undef, .undef, t2, .undef, t4, .undef, .undef, .undef, t8, .undef, .undef, .undef, .undef, .undef, .undef, .undef, .undef, .undef, .undef, .undef, .undef, .undef, .undef, .undef, .undef, .undef, .undef, .undef, .undef, .undef, .undef, .undef, .undef, .undef, .undef, .undef, t36, .undef, .undef, .undef, .undef, .undef, .undef, .undef, .undef, .undef, .undef, .undef, .undef], h⟩
def i_sha_Step_b1 : IR :=
  (.seq
   (.reg [] [
     ⟨(some 37), .bin .plain .lss (.t 36) (.k (.int .i64 8)), none, []⟩])
   (.seq
    (.cond (.t 37)
     .skip
     (.exit 2 i_sha_Step_j2))
    (.seq
     (.block 3 i_sha_Step_j3
      (.seq
       (.reg [] [
         ⟨(some 38), .mv (.t 36), none, []⟩,
         ⟨(some 11), .mv (.t 38), none, []⟩])
       (.reg [] [
         ⟨(some 39), .mv (.t 11), none, []⟩,
         ⟨(some 40), .iap 8 1 (.t 2) (.t 39), none, []⟩,
         ⟨(some 41), .load false 1 (.t 40), none, []⟩,
         ⟨(some 42), .mv (.t 11), none, []⟩,
         ⟨(some 43), .iap 8 1 (.t 8) (.t 42), none, []⟩,
         ⟨(some 44), .load false 1 (.t 43), none, []⟩,
         ⟨(some 45), .bin .plain .add (.t 41) (.t 44), none, []⟩,
         ⟨(some 46), .iap 8 1 (.t 2) (.t 39), none, []⟩,
         ⟨none, .store 1 (.t 46) (.t 45), none, []⟩])))
     (.reg [] [
       ⟨(some 47), .bin .plain .add (.t 36) (.k (.int .i64 1)), none, []⟩,
       ⟨(some 36), .mv (.t 47), none, []⟩]))))

abbrev s_sha_Step_J2 (t2 t4 : AV) (h : Heap) : St := ⟨[.undef, .undef, t2, .undef, t4, .undef, .undef, .undef, .undef, .undef, .undef, .undef, .undef, .undef, .undef, .undef, .undef, .undef, .undef, .undef, .undef, .undef, .undef, .undef, .undef, .undef, .undef, .undef, .undef, .undef, .undef, .undef, .undef, .undef, .undef, .undef, .undef, .undef, .undef, .undef, .undef, .undef, .undef, .undef, .undef, .undef, .undef, .undef, .undef], h⟩
/-- heartwood/sha.Step -/
def i_sha_Step : Ev.Fn := ⟨2, 49, 3,
  (.seq
   (.reg [] [
     ⟨(some 2), .box 0 8 (.t 0), none, []⟩,
     ⟨(some 4), .new 1 [(.int .u32 0), (.int .u32 0), (.int .u32 0), (.int .u32 0), (.int .u32 0), (.int .u32 0), (.int .u32 0), (.int .u32 0)], none, []⟩,
     ⟨(some 5), .mv (.k .nilIface), none, []⟩])
   (.seq
    (.reg [] [
      ⟨(some 13), .cn (.t 1), none, []⟩,
      ⟨(some 14), .qcall n_sha_Words [(.t 13)] [], none, []⟩,
      ⟨(some 12), .mv (.t 14), none, []⟩,
      ⟨(some 15), .ext 0 (.t 12), none, []⟩,
      ⟨(some 16), .ext 1 (.t 12), none, []⟩,
      ⟨(some 6), .cn (.t 15), none, []⟩,
      ⟨(some 7), .mv (.t 16), none, []⟩])
    (.seq
     (.seq
      (.reg [] [
        ⟨(some 17), .mv (.t 7), none, []⟩,
        ⟨(some 18), .bin (.iface ty_api_Code true) .neq (.t 17) (.k .nilIface), none, []⟩])
      (.cond (.t 18)
       (.seq
        (.reg [] [
          ⟨(some 19), .build [(.int .u32 0), (.int .u32 0), (.int .u32 0), (.int .u32 0), (.int .u32 0), (.int .u32 0), (.int .u32 0), (.int .u32 0)] [], none, []⟩,
          ⟨(some 20), .mv (.t 7), none, []⟩,
          ⟨none, .store 8 (.t 4) (.t 19), none, []⟩,
          ⟨(some 5), .mv (.t 20), none, []⟩])
        (.ret i_sha_Step_r))
       .skip))
     (.seq
      (.reg [] [
        ⟨(some 21), .load true 8 (.t 2), none, []⟩,
        ⟨(some 8), .new 2 [(.int .u32 0), (.int .u32 0), (.int .u32 0), (.int .u32 0), (.int .u32 0), (.int .u32 0), (.int .u32 0), (.int .u32 0)], none, []⟩,
        ⟨none, .store 8 (.t 8) (.t 21), none, []⟩])
      (.seq
       (.seq
        (.reg [] [
          ⟨(some 22), .cn (.t 6), none, []⟩,
          ⟨(some 23), .len false (.t 22), none, []⟩,
          ⟨(some 24), .mv (.k (.int .i64 0)), none, []⟩])
        (.block 0 i_sha_Step_j0
         (.loop i_sha_Step_k0 i_sha_Step_b0)))
       (.seq
        (.seq
         (.reg [] [
           ⟨(some 36), .mv (.k (.int .i64 0)), none, []⟩])
         (.block 2 i_sha_Step_j2
          (.loop i_sha_Step_k1 i_sha_Step_b1)))
        (.seq
         (.reg [] [
           ⟨(some 48), .load true 8 (.t 2), none, []⟩,
           ⟨none, .store 8 (.t 4) (.t 48), none, []⟩,
           ⟨(some 5), .mv (.k .nilIface), none, []⟩])
         (.ret i_sha_Step_r)))))))),
  [.cell 4 true 8, .tmp 5], [], false, []⟩

def i_sha_Words_r : List Bool := [false, false, true, true, false, false, false, false, false, false, false, false, false, false, false, false, false, false, false, false, false, false, false, false, false, false, false, false, false, false, false, false, false, false, false, false, false, false, false, false, false, false, false, false, false, false, false, false, false, false, false, false, false, false, false, false, false, false, false, false, false, false, false, false, false, false, false, false, false, false, false, false, false, false, false, false, false, false, false, false, false, false, false, false, false, false, false]
def i_sha_Words_j1 : List Bool := [false, false, false, false, true, false, false, false, false, false, false, false, false, false, false, false, false, true, true, true, false, false, false, false, false, false, false, false, false, false, false, false, false, false, false, false, false, false, false, false, false, false, false, false, false, false, false, false, false, false, false, false, false, false, false, false, false, false, false, false, false, false, false, false, false, false, false, false, false, false, false, false, false, false, false, false, false, false, false, false, false, false, false, false, false, false, false]
def i_sha_Words_k0 : List Bool := [false, false, false, false, true, false, false, false, false, false, false, false, false, false, false, false, false, true, true, true, false, false, false, false, false, false, false, false, false, false, false, false, false, false, false, false, false, false, false, false, false, false, false, false, false, false, false, false, false, false, false, false, false, false, false, false, false, false, false, false, false, false, false, false, false, false, false, false, false, false, false, false, false, false, false, false, false, false, false, false, false, false, false, false, false, false, false]
def i_sha_Words_j0 : List Bool := [false, false, false, false, true, false, false, false, false, false, false, false, false, false, false, false, false, false, false, false, false, false, false, false, false, false, false, false, false, false, false, false, false, false, false, false, false, false, false, false, false, false, false, false, false, false, false, false, false, false, false, false, false, false, false, false, false, false, false, false, false, false, false, false, false, false, false, false, false, false, false, false, false, false, false, false, false, false, false, false, false, false, false, false, false, false, false]
def i_sha_Words_j3 : List Bool := [false, false, false, false, true, false, false, true, false, false, false, false, false, false, false, false, false, false, false, false, false, false, false, false, false, false, false, false, false, false, false, false, false, false, false, false, false, false, false, false, false, false, false, false, false, false, false, false, false, false, false, false, false, false, false, false, false, false, false, false, false, false, false, false, false, false, false, false, false, false, false, false, false, false, false, false, false, false, false, false, false, false, false, false, false, false, false]
def i_sha_Words_k1 : List Bool := [false, false, false, false, true, false, false, true, false, false, false, false, false, false, false, false, false, false, false, false, false, false, false, false, false, false, false, false, false, false, false, false, false, false, false, false, false, false, false, false, false, false, false, false, false, false, false, false, false, false, false, false, false, false, false, false, false, false, false, false, false, false, false, false, false, false, false, false, false, false, false, false, false, false, false, false, false, false, false, false, false, false, false, false, false, false, false]
def i_sha_Words_j2 : List Bool := [false, false, false, false, true, false, false, false, false, false, false, false, false, false, false, false, false, false, false, false, false, false, false, false, false, false, false, false, false, false, false, false, false, false, false, false, false, false, false, false, false, false, false, false, false, false, false, false, false, false, false, false, false, false, false, false, false, false, false, false, false, false, false, false, false, false, false, false, false, false, false, false, false, false, false, false, false, false, false, false, false, false, false, false, false, false, false]
abbrev s_sha_Words_R (t2 t3 : AV) (h : Heap) : St := ⟨[.undef, .undef, t2, t3, .undef, .undef, .undef, .undef, .undef, .undef, .undef, .undef, .undef, .undef, .undef, .undef, .undef, .undef, .undef, .undef, .undef, .undef, .undef, .undef, .undef, .undef, .undef, .undef, .undef, .undef, .undef, .undef, .undef, .undef, .undef, .undef, .undef, .undef, .undef, .undef, .undef, .undef, .undef, .undef, .undef, .undef, .undef, .undef, .undef, .undef, .undef, .undef, .undef, .undef, .undef, .undef, .undef, .undef, .undef, .undef, .undef, .undef, .undef, .undef, .undef, .undef, .undef, .undef, .undef, .undef, .undef, .undef, .undef, .undef, .undef, .undef, .undef, .undef, .undef, .undef, .undef, .undef, .undef, .undef, .undef, .undef, .undef], h⟩
abbrev s_sha_Words_K0 (t4 t17 t18 t19 : AV) (h : Heap) : St := ⟨[.undef, .undef, .undef, .undef, t4, .undef, .undef, .undef, .undef, .undef, .undef, .undef, .undef, .undef, .undef, .undef, .undef, t17, t18, t19, .undef, .undef, .undef, .undef, .undef, .undef, .undef, .undef, .undef, .undef, .undef, .undef, .undef, .undef, .undef, .undef, .undef, .undef, .undef, .undef, .undef, .undef, .undef, .undef, .undef, .undef, .undef, .undef, .undef, .undef, .undef, .undef, .undef, .undef, .undef, .undef, .undef, .undef, .undef, .undef, .undef, .undef, .undef, .undef, .undef, .undef, .undef, .undef, .undef, .undef, .undef, .undef, .undef, .undef, .undef, .undef, .undef, .undef, .undef, .undef, .undef, .undef, .undef, .undef, .undef, .undef, .undef], h⟩
def i_sha_Words_b0 : IR :=
  (.seq
   (.reg [] [
     ⟨(some 20), .bin .plain .lss (.t 19) (.t 18), none, []⟩])
   (.seq
    (.cond (.t 20)
     .skip
     (.exit 0 i_sha_Words_j0))
    (.seq
     (.block 1 i_sha_Words_j1
      (.seq
       (.reg [] [
         ⟨(some 21), .mv (.t 19), none, []⟩,
         ⟨(some 22), .ia 1 (.t 17) (.t 19), none, []⟩,
         ⟨(some 23), .load false 1 (.t 22), none, []⟩,
         ⟨(some 5), .mv (.t 21), none, []⟩,
         ⟨(some 6), .mv (.t 23), none, []⟩])
       (.reg [] [
         ⟨(some 24), .mv (.t 4), none, []⟩,
         ⟨(some 25), .mv (.t 5), none, []⟩,
         ⟨(some 26), .bin .plain .quo (.t 25) (.k (.int .i64 4)), none, []⟩,
         ⟨(some 27), .cn (.t 4), none, []⟩,
         ⟨(some 28), .mv (.t 5), none, []⟩,
         ⟨(some 29), .bin .plain .quo (.t 28) (.k (.int .i64 4)), none, []⟩,
         ⟨(some 30), .ia 1 (.t 27) (.t 29), none, []⟩,
         ⟨(some 31), .load false 1 (.t 30), none, []⟩,
         ⟨(some 32), .bin .plain .shl (.t 31) (.k (.int .u64 8)), none, []⟩,
         ⟨(some 33), .mv (.t 6), none, []⟩,
         ⟨(some 34), .conv .u32 (.t 33), none, []⟩,
         ⟨(some 35), .bin .plain .or (.t 32) (.t 34), none, []⟩,
         ⟨(some 36), .ia 1 (.t 24) (.t 26), none, []⟩,
         ⟨none, .store 1 (.t 36) (.t 35), none, []⟩])))
     (.reg [] [
       ⟨(some 37), .bin .plain .add (.t 19) (.k (.int .i64 1)), none, []⟩,
       ⟨(some 19), .mv (.t 37), none, []⟩]))))

abbrev s_sha_Words_J0 (t4 : AV) (h : Heap) : St := ⟨[.undef, .undef, .undef, .undef, t4, .undef, .undef, .undef, .undef, .undef, .undef, .undef, .undef, .undef, .undef, .undef, .undef, .undef, .undef, .undef, .undef, .undef, .undef, .undef, .undef, .undef, .undef, .undef, .undef, .undef, .undef, .undef, .undef, .undef, .undef, .undef, .undef, .undef, .undef, .undef, .undef, .undef, .undef, .undef, .undef, .undef, .undef, .undef, .undef, .undef, .undef, .undef, .undef, .undef, .undef, .undef, .undef, .undef, .undef, .undef, .undef, .undef, .undef, .undef, .undef, .undef, .undef, .undef, .undef, .undef, .undef, .undef, .undef, .undef, .undef, .undef, .undef, .undef, .undef, .undef, .undef, .undef, .undef, .undef, .undef, .undef, .undef], h⟩
abbrev s_sha_Words_K1 (t4 t7 : AV) (h : Heap) : St := ⟨[.undef, .undef, .undef, .undef, t4, .undef, .undef, t7, .undef, .undef, .undef, .undef, .undef, .undef, .undef, .undef, .undef, .undef, .undef, .undef, .undef, .undef, .undef, .undef, .undef, .undef, .undef, .undef, .undef, .undef, .undef, .undef, .undef, .undef, .undef, .undef, .undef, .undef, .undef, .undef, .undef, .undef, .undef, .undef, .undef, .undef, .undef, .undef, .undef, .undef, .undef, .undef, .undef, .undef, .undef, .undef, .undef, .undef, .undef, .undef, .undef, .undef, .undef, .undef, .undef, .undef, .undef, .undef, .undef, .undef, .undef, .undef, .undef, .undef, .undef, .undef, .undef, .undef, .undef, .undef, .undef, .undef, .undef, .undef, .undef, .undef, .undef], h⟩
def i_sha_Words_b1 : IR :=
  (.seq
   (.seq
    (.reg [] [
      ⟨(some 38), .mv (.t 7), none, []⟩,
      ⟨(some 39), .bin .plain .lss (.t 38) (.k (.int .i64 64)), none, []⟩])
    (.cond (.t 39)
     .skip
     (.exit 2 i_sha_Words_j2)))
   (.seq
    (.block 3 i_sha_Words_j3
     (.seq
      (.reg [] [
        ⟨(some 42), .cn (.t 4), none, []⟩,
        ⟨(some 43), .mv (.t 7), none, []⟩,
        ⟨(some 44), .bin .plain .sub (.t 43) (.k (.int .i64 15)), none, []⟩,
        ⟨(some 45), .ia 1 (.t 42) (.t 44), none, []⟩,
        ⟨(some 46), .load false 1 (.t 45), none, []⟩,
        ⟨(some 47), .cn (.t 4), none, []⟩,
        ⟨(some 48), .mv (.t 7), none, []⟩,
        ⟨(some 49), .bin .plain .sub (.t 48) (.k (.int .i64 2)), none, []⟩,
        ⟨(some 50), .ia 1 (.t 47) (.t 49), none, []⟩,
        ⟨(some 51), .load false 1 (.t 50), none, []⟩,
        ⟨(some 8), .mv (.t 46), none, []⟩,
        ⟨(some 9), .mv (.t 51), none, []⟩])
      (.seq
       (.reg [] [
         ⟨(some 52), .mv (.t 8), none, []⟩,
         ⟨(some 53), .qcall n_math_bits_RotateLeft32 [(.t 52), (.k (.int .i64 (-7)))] [], none, []⟩,
         ⟨(some 54), .mv (.t 8), none, []⟩,
         ⟨(some 55), .qcall n_math_bits_RotateLeft32 [(.t 54), (.k (.int .i64 (-18)))] [], none, []⟩,
         ⟨(some 56), .bin .plain .xor (.t 53) (.t 55), none, []⟩,
         ⟨(some 57), .mv (.t 8), none, []⟩,
         ⟨(some 58), .bin .plain .shr (.t 57) (.k (.int .u64 3)), none, []⟩,
         ⟨(some 59), .bin .plain .xor (.t 56) (.t 58), none, []⟩,
         ⟨(some 10), .mv (.t 59), none, []⟩])
       (.seq
        (.reg [] [
          ⟨(some 60), .mv (.t 9), none, []⟩,
          ⟨(some 61), .qcall n_math_bits_RotateLeft32 [(.t 60), (.k (.int .i64 (-17)))] [], none, []⟩,
          ⟨(some 62), .mv (.t 9), none, []⟩,
          ⟨(some 63), .qcall n_math_bits_RotateLeft32 [(.t 62), (.k (.int .i64 (-19)))] [], none, []⟩,
          ⟨(some 64), .bin .plain .xor (.t 61) (.t 63), none, []⟩,
          ⟨(some 65), .mv (.t 9), none, []⟩,
          ⟨(some 66), .bin .plain .shr (.t 65) (.k (.int .u64 10)), none, []⟩,
          ⟨(some 67), .bin .plain .xor (.t 64) (.t 66), none, []⟩,
          ⟨(some 11), .mv (.t 67), none, []⟩])
        (.reg [] [
          ⟨(some 68), .mv (.t 4), none, []⟩,
          ⟨(some 69), .mv (.t 7), none, []⟩,
          ⟨(some 70), .cn (.t 4), none, []⟩,
          ⟨(some 71), .mv (.t 7), none, []⟩,
          ⟨(some 72), .bin .plain .sub (.t 71) (.k (.int .i64 16)), none, []⟩,
          ⟨(some 73), .ia 1 (.t 70) (.t 72), none, []⟩,
          ⟨(some 74), .load false 1 (.t 73), none, []⟩,
          ⟨(some 75), .mv (.t 10), none, []⟩,
          ⟨(some 76), .bin .plain .add (.t 74) (.t 75), none, []⟩,
          ⟨(some 77), .cn (.t 4), none, []⟩,
          ⟨(some 78), .mv (.t 7), none, []⟩,
          ⟨(some 79), .bin .plain .sub (.t 78) (.k (.int .i64 7)), none, []⟩,
          ⟨(some 80), .ia 1 (.t 77) (.t 79), none, []⟩,
          ⟨(some 81), .load false 1 (.t 80), none, []⟩,
          ⟨(some 82), .bin .plain .add (.t 76) (.t 81), none, []⟩,
          ⟨(some 83), .mv (.t 11), none, []⟩,
          ⟨(some 84), .bin .plain .add (.t 82) (.t 83), none, []⟩,
          ⟨(some 85), .ia 1 (.t 68) (.t 69), none, []⟩,
          ⟨none, .store 1 (.t 85) (.t 84), none, []⟩])))))
    (.reg [] [
      ⟨(some 40), .mv (.t 7), none, []⟩,
      ⟨(some 41), .bin .plain .add (.t 40) (.k (.int .i64 1)), none, []⟩,
      ⟨(some 7), .mv (.t 41), none, []⟩])))

abbrev s_sha_Words_J2 (t4 : AV) (h : Heap) : St := ⟨[.undef, .undef, .undef, .undef, t4, .undef, .undef, .undef, .undef, .undef, .undef, .undef, .undef, .undef, .undef, .undef, .undef, .undef, .undef, .undef, .undef, .undef, .undef, .undef, .undef, .undef, .undef, .undef, .undef, .undef, .undef, .undef, .undef, .undef, .undef, .undef, .undef, .undef, .undef, .undef, .undef, .undef, .undef, .undef, .undef, .undef, .undef, .undef, .undef, .undef, .undef, .undef, .undef, .undef, .undef, .undef, .undef, .undef, .undef, .undef, .undef, .undef, .undef, .undef, .undef, .undef, .undef, .undef, .undef, .undef, .undef, .undef, .undef, .undef, .undef, .undef, .undef, .undef, .undef, .undef, .undef, .undef, .undef, .undef, .undef, .undef, .undef], h⟩
/-- heartwood/sha.Words -/
def i_sha_Words : Ev.Fn := ⟨1, 87, 1,
  (.seq
   (.reg [] [
     ⟨(some 2), .cn (.k (.slice none 0 0)), none, []⟩,
     ⟨(some 3), .mv (.k .nilIface), none, []⟩])
   (.seq
    (.seq
     (.reg [] [
       ⟨(some 12), .cn (.t 0), none, []⟩,
       ⟨(some 13), .len false (.t 12), none, []⟩,
       ⟨(some 14), .bin .plain .neq (.t 13) (.k (.int .i64 64)), none, []⟩])
     (.cond (.t 14)
      (.seq
       (.reg [] [
         ⟨(some 15), .mki ty_api_Code (.k (.int .i64 1)), none, []⟩,
         ⟨(some 2), .cn (.k (.slice none 0 0)), none, []⟩,
         ⟨(some 3), .mv (.t 15), none, []⟩])
       (.ret i_sha_Words_r))
      .skip))
    (.seq
     (.reg [] [
       ⟨(some 16), .make 0 ty_uint32 1 4 [(.int .u32 0)] (.k (.int .i64 64)) (.k (.int .i64 64)), none, []⟩,
       ⟨(some 4), .mv (.t 16), none, []⟩])
     (.seq
      (.seq
       (.reg [] [
         ⟨(some 17), .cn (.t 0), none, []⟩,
         ⟨(some 18), .len false (.t 17), none, []⟩,
         ⟨(some 19), .mv (.k (.int .i64 0)), none, []⟩])
       (.block 0 i_sha_Words_j0
        (.loop i_sha_Words_k0 i_sha_Words_b0)))
      (.seq
       (.seq
        (.reg [] [
          ⟨(some 7), .mv (.k (.int .i64 16)), none, []⟩])
        (.block 2 i_sha_Words_j2
         (.loop i_sha_Words_k1 i_sha_Words_b1)))
       (.seq
        (.reg [] [
          ⟨(some 86), .cn (.t 4), none, [4]⟩,
          ⟨(some 2), .cn (.t 86), none, [86]⟩,
          ⟨(some 3), .mv (.k .nilIface), none, []⟩])
        (.ret i_sha_Words_r))))))),
  [.tmp 2, .tmp 3], [], false, []⟩

def i_math_bits_RotateLeft32_r : List Bool := [false, false, false, false, true, false, false, false, false, false, false, false, false, false, false, false, false]
/-- math/bits.RotateLeft32 -/
def i_math_bits_RotateLeft32 : Ev.Fn := ⟨2, 17, 0,
  (.seq
   (.reg [] [
     ⟨(some 4), .mv (.k (.int .u32 0)), none, []⟩])
   (.seq
    (.reg [] [
      ⟨(some 6), .mv (.t 1), none, []⟩,
      ⟨(some 7), .conv .u64 (.t 6), none, []⟩,
      ⟨(some 8), .bin .plain .and (.t 7) (.k (.int .u64 31)), none, []⟩,
      ⟨(some 5), .mv (.t 8), none, []⟩])
    (.seq
     (.reg [] [
       ⟨(some 9), .mv (.t 0), none, []⟩,
       ⟨(some 10), .mv (.t 5), none, []⟩,
       ⟨(some 11), .bin .plain .shl (.t 9) (.t 10), none, []⟩,
       ⟨(some 12), .mv (.t 0), none, []⟩,
       ⟨(some 13), .mv (.t 5), none, []⟩,
       ⟨(some 14), .bin .plain .sub (.k (.int .u64 32)) (.t 13), none, []⟩,
       ⟨(some 15), .bin .plain .shr (.t 12) (.t 14), none, []⟩,
       ⟨(some 16), .bin .plain .or (.t 11) (.t 15), none, []⟩,
       ⟨(some 4), .mv (.t 16), none, []⟩])
     (.ret i_math_bits_RotateLeft32_r)))),
  [.tmp 4], [], false, []⟩

def i_sha_Round_r : List Bool := [false, false, false, false, false, false, true, false, false, false, false, false, false, false, false, false, false, false, false, false, false, false, false, false, false, false, false, false, false, false, false, false, false, false, false, false, false, false, false, false, false, false, false, false, false, false, false, false, false, false, false, false, false, false, false, false, false, false, false, false, false, false, false, false, false, false, false, false, false, false, false, false, false, false, false, false, false, false, false, false, false, false, false, false, false]
/-- heartwood/sha.Round -/
def i_sha_Round : Ev.Fn := ⟨3, 85, 2,
  (.seq
   (.reg [] [
     ⟨(some 3), .box 0 8 (.t 0), none, []⟩,
     ⟨(some 6), .new 1 [(.int .u32 0), (.int .u32 0), (.int .u32 0), (.int .u32 0), (.int .u32 0), (.int .u32 0), (.int .u32 0), (.int .u32 0)], none, []⟩])
   (.seq
    (.reg [] [
      ⟨(some 15), .iap 8 1 (.t 3) (.k (.int .i64 0)), none, []⟩,
      ⟨(some 16), .load false 1 (.t 15), none, []⟩,
      ⟨(some 17), .iap 8 1 (.t 3) (.k (.int .i64 1)), none, []⟩,
      ⟨(some 18), .load false 1 (.t 17), none, []⟩,
      ⟨(some 19), .iap 8 1 (.t 3) (.k (.int .i64 2)), none, []⟩,
      ⟨(some 20), .load false 1 (.t 19), none, []⟩,
      ⟨(some 21), .iap 8 1 (.t 3) (.k (.int .i64 4)), none, []⟩,
      ⟨(some 22), .load false 1 (.t 21), none, []⟩,
      ⟨(some 23), .iap 8 1 (.t 3) (.k (.int .i64 5)), none, []⟩,
      ⟨(some 24), .load false 1 (.t 23), none, []⟩,
      ⟨(some 25), .iap 8 1 (.t 3) (.k (.int .i64 6)), none, []⟩,
      ⟨(some 26), .load false 1 (.t 25), none, []⟩,
      ⟨(some 7), .mv (.t 16), none, []⟩,
      ⟨(some 8), .mv (.t 18), none, []⟩,
      ⟨(some 9), .mv (.t 20), none, []⟩,
      ⟨(some 10), .mv (.t 22), none, []⟩,
      ⟨(some 11), .mv (.t 24), none, []⟩,
      ⟨(some 12), .mv (.t 26), none, []⟩])
    (.seq
     (.reg [] [
       ⟨(some 27), .iap 8 1 (.t 3) (.k (.int .i64 7)), none, []⟩,
       ⟨(some 28), .load false 1 (.t 27), none, []⟩,
       ⟨(some 29), .mv (.t 10), none, []⟩,
       ⟨(some 30), .qcall n_math_bits_RotateLeft32 [(.t 29), (.k (.int .i64 (-6)))] [], none, []⟩,
       ⟨(some 31), .mv (.t 10), none, []⟩,
       ⟨(some 32), .qcall n_math_bits_RotateLeft32 [(.t 31), (.k (.int .i64 (-11)))] [], none, []⟩,
       ⟨(some 33), .bin .plain .xor (.t 30) (.t 32), none, []⟩,
       ⟨(some 34), .mv (.t 10), none, []⟩,
       ⟨(some 35), .qcall n_math_bits_RotateLeft32 [(.t 34), (.k (.int .i64 (-25)))] [], none, []⟩,
       ⟨(some 36), .bin .plain .xor (.t 33) (.t 35), none, []⟩,
       ⟨(some 37), .bin .plain .add (.t 28) (.t 36), none, []⟩,
       ⟨(some 38), .mv (.t 10), none, []⟩,
       ⟨(some 39), .mv (.t 11), none, []⟩,
       ⟨(some 40), .bin .plain .and (.t 38) (.t 39), none, []⟩,
       ⟨(some 41), .mv (.t 10), none, []⟩,
       ⟨(some 42), .un .xor (.t 41), none, []⟩,
       ⟨(some 43), .mv (.t 12), none, []⟩,
       ⟨(some 44), .bin .plain .and (.t 42) (.t 43), none, []⟩,
       ⟨(some 45), .bin .plain .xor (.t 40) (.t 44), none, []⟩,
       ⟨(some 46), .bin .plain .add (.t 37) (.t 45), none, []⟩,
       ⟨(some 47), .mv (.t 1), none, []⟩,
       ⟨(some 48), .bin .plain .add (.t 46) (.t 47), none, []⟩,
       ⟨(some 49), .mv (.t 2), none, []⟩,
       ⟨(some 50), .bin .plain .add (.t 48) (.t 49), none, []⟩,
       ⟨(some 13), .mv (.t 50), none, []⟩])
     (.seq
      (.reg [] [
        ⟨(some 51), .mv (.t 7), none, []⟩,
        ⟨(some 52), .qcall n_math_bits_RotateLeft32 [(.t 51), (.k (.int .i64 (-2)))] [], none, []⟩,
        ⟨(some 53), .mv (.t 7), none, []⟩,
        ⟨(some 54), .qcall n_math_bits_RotateLeft32 [(.t 53), (.k (.int .i64 (-13)))] [], none, []⟩,
        ⟨(some 55), .bin .plain .xor (.t 52) (.t 54), none, []⟩,
        ⟨(some 56), .mv (.t 7), none, []⟩,
        ⟨(some 57), .qcall n_math_bits_RotateLeft32 [(.t 56), (.k (.int .i64 (-22)))] [], none, []⟩,
        ⟨(some 58), .bin .plain .xor (.t 55) (.t 57), none, []⟩,
        ⟨(some 59), .mv (.t 7), none, []⟩,
        ⟨(some 60), .mv (.t 8), none, []⟩,
        ⟨(some 61), .bin .plain .and (.t 59) (.t 60), none, []⟩,
        ⟨(some 62), .mv (.t 7), none, []⟩,
        ⟨(some 63), .mv (.t 9), none, []⟩,
        ⟨(some 64), .bin .plain .and (.t 62) (.t 63), none, []⟩,
        ⟨(some 65), .bin .plain .xor (.t 61) (.t 64), none, []⟩,
        ⟨(some 66), .mv (.t 8), none, []⟩,
        ⟨(some 67), .mv (.t 9), none, []⟩,
        ⟨(some 68), .bin .plain .and (.t 66) (.t 67), none, []⟩,
        ⟨(some 69), .bin .plain .xor (.t 65) (.t 68), none, []⟩,
        ⟨(some 70), .bin .plain .add (.t 58) (.t 69), none, []⟩,
        ⟨(some 14), .mv (.t 70), none, []⟩])
      (.seq
       (.reg [] [
         ⟨(some 71), .mv (.t 13), none, []⟩,
         ⟨(some 72), .mv (.t 14), none, []⟩,
         ⟨(some 73), .bin .plain .add (.t 71) (.t 72), none, []⟩,
         ⟨(some 74), .mv (.t 7), none, []⟩,
         ⟨(some 75), .mv (.t 8), none, []⟩,
         ⟨(some 76), .mv (.t 9), none, []⟩,
         ⟨(some 77), .iap 8 1 (.t 3) (.k (.int .i64 3)), none, []⟩,
         ⟨(some 78), .load false 1 (.t 77), none, []⟩,
         ⟨(some 79), .mv (.t 13), none, []⟩,
         ⟨(some 80), .bin .plain .add (.t 78) (.t 79), none, []⟩,
         ⟨(some 81), .mv (.t 10), none, []⟩,
         ⟨(some 82), .mv (.t 11), none, []⟩,
         ⟨(some 83), .mv (.t 12), none, []⟩,
         ⟨(some 84), .build [(.int .u32 0), (.int .u32 0), (.int .u32 0), (.int .u32 0), (.int .u32 0), (.int .u32 0), (.int .u32 0), (.int .u32 0)] [(0, 1, (.t 73)), (1, 1, (.t 74)), (2, 1, (.t 75)), (3, 1, (.t 76)), (4, 1, (.t 80)), (5, 1, (.t 81)), (6, 1, (.t 82)), (7, 1, (.t 83))], none, []⟩,
         ⟨none, .store 8 (.t 6) (.t 84), none, []⟩])
       (.ret i_sha_Round_r)))))),
  [.cell 6 true 8], [], false, []⟩

def i_slices_Clone_sl_byte_byte_r : List Bool := [false, false, true, false, false, false, false, false]
/-- slices.Clone[[]byte,byte] -/
def i_slices_Clone_sl_byte_byte : Ev.Fn := ⟨1, 8, 1,
  (.seq
   (.reg [] [
     ⟨(some 2), .mv (.k (.slice none 0 0)), none, []⟩])
   (.seq
    (.seq
     (.reg [] [
       ⟨(some 3), .mv (.t 0), none, []⟩,
       ⟨(some 4), .bin .slice .eql (.t 3) (.k (.slice none 0 0)), none, []⟩])
     (.cond (.t 4)
      (.seq
       (.reg [] [
         ⟨(some 2), .mv (.k (.slice none 0 0)), none, []⟩])
       (.ret i_slices_Clone_sl_byte_byte_r))
      .skip))
    (.seq
     (.reg [] [
       ⟨(some 5), .lit 0 ty_uint8 1 0 [(.int .u8 0)] [], none, []⟩,
       ⟨(some 6), .cn (.t 0), none, []⟩,
       ⟨(some 7), .app 0 ty_uint8 1 1 (.t 5) (.t 6), none, []⟩,
       ⟨(some 2), .mv (.t 7), none, []⟩])
     (.ret i_slices_Clone_sl_byte_byte_r)))),
  [.tmp 2], [true], true, []⟩

def i_digest_Node_r : List Bool := [false, false, false, false, false, false, false, false, true, true, false, false, false, false, false, false, false, false, false, false, false, false, false, false, false, false, false, false, false, false, false, false, false, false, false, false, false, false]
/-- heartwood/digest.Node -/
def i_digest_Node : Ev.Fn := ⟨4, 38, 1,
  (.seq
   (.reg [] [
     ⟨(some 8), .mv (.k (.slice none 0 0)), none, []⟩,
     ⟨(some 9), .mv (.k .nilIface), none, []⟩])
   (.seq
    (.seq
     (.reg [] [
       ⟨(some 10), .mv (.t 0), none, []⟩,
       ⟨(some 11), .qcall n_digest_width [(.t 10)] [], none, []⟩,
       ⟨(some 12), .un .not (.t 11), none, []⟩,
       ⟨(some 13), .mv (.t 12), none, []⟩,
       ⟨(some 14), .cn (.t 1), (some (13, false)), []⟩,
       ⟨(some 15), .len false (.t 14), (some (13, false)), []⟩,
       ⟨(some 16), .mv (.t 0), (some (13, false)), []⟩,
       ⟨(some 17), .bin .plain .neq (.t 15) (.t 16), (some (13, false)), []⟩,
       ⟨(some 18), .pick (.t 13) (.k (.bool true)) (.t 17), none, []⟩,
       ⟨(some 19), .mv (.t 18), none, []⟩,
       ⟨(some 20), .cn (.t 2), (some (19, false)), []⟩,
       ⟨(some 21), .len false (.t 20), (some (19, false)), []⟩,
       ⟨(some 22), .mv (.t 0), (some (19, false)), []⟩,
       ⟨(some 23), .bin .plain .neq (.t 21) (.t 22), (some (19, false)), []⟩,
       ⟨(some 24), .pick (.t 19) (.k (.bool true)) (.t 23), none, []⟩,
       ⟨(some 25), .mv (.t 24), none, []⟩,
       ⟨(some 26), .cn (.t 3), (some (25, false)), []⟩,
       ⟨(some 27), .len false (.t 26), (some (25, false)), []⟩,
       ⟨(some 28), .mv (.t 0), (some (25, false)), []⟩,
       ⟨(some 29), .bin .plain .neq (.t 27) (.t 28), (some (25, false)), []⟩,
       ⟨(some 30), .pick (.t 25) (.k (.bool true)) (.t 29), none, []⟩])
     (.cond (.t 30)
      (.seq
       (.reg [] [
         ⟨(some 31), .mki ty_api_Code (.k (.int .i64 1)), none, []⟩,
         ⟨(some 8), .mv (.k (.slice none 0 0)), none, []⟩,
         ⟨(some 9), .mv (.t 31), none, []⟩])
       (.ret i_digest_Node_r))
      .skip))
    (.seq
     (.reg [] [
       ⟨(some 32), .litd 1 1 [(.int .u8 0)] [(0, (.k (.int .u8 2)))], none, []⟩,
       ⟨(some 33), .cn (.t 1), none, []⟩,
       ⟨(some 34), .cn (.t 2), none, []⟩,
       ⟨(some 35), .cn (.t 3), none, []⟩,
       ⟨(some 36), .litd 1 4 [(.slice none 0 0)] [(0, (.t 32)), (1, (.t 33)), (2, (.t 34)), (3, (.t 35))], none, []⟩,
       ⟨(some 37), .qcall n_slices_Concat_sl_byte_byte [(.t 36)] [0], none, []⟩,
       ⟨(some 8), .mv (.t 37), none, []⟩,
       ⟨(some 9), .mv (.k .nilIface), none, []⟩])
     (.ret i_digest_Node_r)))),
  [.tmp 8, .tmp 9], [true, false], false, []⟩

def tab (f : Nat) : Option Ev.Fn := match f with
  | 4 => some i_law03_DigestStays
  | 7 => some i_law03_up
  | 10 => some i_digest_Pair
  | 16 => some i_digest_width
  | 19 => some i_coder_Bytes
  | 22 => some i_coder_Number
  | 18 => some i_slices_Concat_sl_byte_byte
  | 21 => some i_slices_Grow_sl_byte_byte
  | 15 => some i_digest_None
  | 8 => some i_digest_Value
  | 9 => some i_digest_Of
  | 5 => some i_sha_Sum
  | 12 => some i_sha_Tail
  | 13 => some i_sha_Step
  | 6 => some i_sha_Words
  | 14 => some i_math_bits_RotateLeft32
  | 20 => some i_sha_Round
  | 17 => some i_slices_Clone_sl_byte_byte
  | 11 => some i_digest_Node
  | _ => none
theorem t_law03_DigestStays : tab n_law03_DigestStays = some i_law03_DigestStays := rfl
theorem t_law03_up : tab n_law03_up = some i_law03_up := rfl
theorem t_digest_Pair : tab n_digest_Pair = some i_digest_Pair := rfl
theorem t_digest_width : tab n_digest_width = some i_digest_width := rfl
theorem t_coder_Bytes : tab n_coder_Bytes = some i_coder_Bytes := rfl
theorem t_coder_Number : tab n_coder_Number = some i_coder_Number := rfl
theorem t_slices_Concat_sl_byte_byte : tab n_slices_Concat_sl_byte_byte = some i_slices_Concat_sl_byte_byte := rfl
theorem t_slices_Grow_sl_byte_byte : tab n_slices_Grow_sl_byte_byte = some i_slices_Grow_sl_byte_byte := rfl
theorem t_digest_None : tab n_digest_None = some i_digest_None := rfl
theorem t_digest_Value : tab n_digest_Value = some i_digest_Value := rfl
theorem t_digest_Of : tab n_digest_Of = some i_digest_Of := rfl
theorem t_sha_Sum : tab n_sha_Sum = some i_sha_Sum := rfl
theorem t_sha_Tail : tab n_sha_Tail = some i_sha_Tail := rfl
theorem t_sha_Step : tab n_sha_Step = some i_sha_Step := rfl
theorem t_sha_Words : tab n_sha_Words = some i_sha_Words := rfl
theorem t_math_bits_RotateLeft32 : tab n_math_bits_RotateLeft32 = some i_math_bits_RotateLeft32 := rfl
theorem t_sha_Round : tab n_sha_Round = some i_sha_Round := rfl
theorem t_slices_Clone_sl_byte_byte : tab n_slices_Clone_sl_byte_byte = some i_slices_Clone_sl_byte_byte := rfl
theorem t_digest_Node : tab n_digest_Node = some i_digest_Node := rfl
/-- The constants of the rounds, and the words at first. -/
def tabK : List Int := [1116352408, 1899447441, 3049323471, 3921009573, 961987163, 1508970993, 2453635748, 2870763221, 3624381080, 310598401, 607225278, 1426881987, 1925078388, 2162078206, 2614888103, 3248222580, 3835390401, 4022224774, 264347078, 604807628, 770255983, 1249150122, 1555081692, 1996064986, 2554220882, 2821834349, 2952996808, 3210313671, 3336571891, 3584528711, 113926993, 338241895, 666307205, 773529912, 1294757372, 1396182291, 1695183700, 1986661051, 2177026350, 2456956037, 2730485921, 2820302411, 3259730800, 3345764771, 3516065817, 3600352804, 4094571909, 275423344, 430227734, 506948616, 659060556, 883997877, 958139571, 1322822218, 1537002063, 1747873779, 1955562222, 2024104815, 2227730452, 2361852424, 2428436474, 2756734187, 3204031479, 3329325298]
def tabH : List Int := [1779033703, 3144134277, 1013904242, 2773480762, 1359893119, 2600822924, 528734635, 1541459225]
def gK : List C := tabK.map fun n => .sc (.int .u32 n)
def gH : List C := tabH.map fun n => .sc (.int .u32 n)
def G0 : Cf := ⟨fun g => if g = 0 then gH else if g = 1 then gK else [], false⟩
theorem G0_0 : G0.G 0 = gH := rfl
theorem G0_1 : G0.G 1 = gK := rfl
theorem gK_len : gK.length = 64 := rfl
theorem gH_len : gH.length = 8 := rfl
theorem gK_at {i : Nat} (h : i < 64) : (gK.drop i).take 1 = [.sc (.int .u32 (tabK.getD i 0))] := by
  have hl : tabK.length = 64 := rfl
  rw [gK, List.drop_eq_getElem_cons (by rw [List.length_map]; omega)]
  simp only [List.take_succ_cons, List.take_zero, List.getElem_map, List.getD, List.getElem?_eq_getElem (show i < tabK.length by omega), Option.getD_some]
theorem gH_take : gH.take 8 = gH := rfl
attribute [go_sem] G0_0 G0_1 gK_len gH_len gK_at gH_take
theorem lt_law03_DigestStays : (n_law03_DigestStays < 1000000) = True := eq_true (by decide)
attribute [go_sem] lt_law03_DigestStays
theorem lt_law03_up : (n_law03_up < 1000000) = True := eq_true (by decide)
attribute [go_sem] lt_law03_up
theorem lt_digest_Pair : (n_digest_Pair < 1000000) = True := eq_true (by decide)
attribute [go_sem] lt_digest_Pair
theorem lt_digest_width : (n_digest_width < 1000000) = True := eq_true (by decide)
attribute [go_sem] lt_digest_width
theorem lt_coder_Bytes : (n_coder_Bytes < 1000000) = True := eq_true (by decide)
attribute [go_sem] lt_coder_Bytes
theorem lt_coder_Number : (n_coder_Number < 1000000) = True := eq_true (by decide)
attribute [go_sem] lt_coder_Number
theorem lt_slices_Concat_sl_byte_byte : (n_slices_Concat_sl_byte_byte < 1000000) = True := eq_true (by decide)
attribute [go_sem] lt_slices_Concat_sl_byte_byte
theorem lt_slices_Grow_sl_byte_byte : (n_slices_Grow_sl_byte_byte < 1000000) = True := eq_true (by decide)
attribute [go_sem] lt_slices_Grow_sl_byte_byte
theorem lt_digest_None : (n_digest_None < 1000000) = True := eq_true (by decide)
attribute [go_sem] lt_digest_None
theorem lt_digest_Value : (n_digest_Value < 1000000) = True := eq_true (by decide)
attribute [go_sem] lt_digest_Value
theorem lt_digest_Of : (n_digest_Of < 1000000) = True := eq_true (by decide)
attribute [go_sem] lt_digest_Of
theorem lt_sha_Sum : (n_sha_Sum < 1000000) = True := eq_true (by decide)
attribute [go_sem] lt_sha_Sum
theorem lt_sha_Tail : (n_sha_Tail < 1000000) = True := eq_true (by decide)
attribute [go_sem] lt_sha_Tail
theorem lt_sha_Step : (n_sha_Step < 1000000) = True := eq_true (by decide)
attribute [go_sem] lt_sha_Step
theorem lt_sha_Words : (n_sha_Words < 1000000) = True := eq_true (by decide)
attribute [go_sem] lt_sha_Words
theorem lt_math_bits_RotateLeft32 : (n_math_bits_RotateLeft32 < 1000000) = True := eq_true (by decide)
attribute [go_sem] lt_math_bits_RotateLeft32
theorem lt_sha_Round : (n_sha_Round < 1000000) = True := eq_true (by decide)
attribute [go_sem] lt_sha_Round
theorem lt_slices_Clone_sl_byte_byte : (n_slices_Clone_sl_byte_byte < 1000000) = True := eq_true (by decide)
attribute [go_sem] lt_slices_Clone_sl_byte_byte
theorem lt_digest_Node : (n_digest_Node < 1000000) = True := eq_true (by decide)
attribute [go_sem] lt_digest_Node
theorem ca_law03_DigestStays (l : List AV) : cArgs tab n_law03_DigestStays l = canonA [] l := rfl
attribute [go_sem] t_law03_DigestStays ca_law03_DigestStays
theorem ca_law03_up (l : List AV) : cArgs tab n_law03_up l = canonA [] l := rfl
attribute [go_sem] t_law03_up ca_law03_up
theorem ca_digest_Pair (l : List AV) : cArgs tab n_digest_Pair l = canonA [] l := rfl
attribute [go_sem] t_digest_Pair ca_digest_Pair
theorem ca_digest_width (l : List AV) : cArgs tab n_digest_width l = canonA [] l := rfl
attribute [go_sem] t_digest_width ca_digest_width
theorem ca_coder_Bytes (l : List AV) : cArgs tab n_coder_Bytes l = canonA [] l := rfl
attribute [go_sem] t_coder_Bytes ca_coder_Bytes
theorem ca_coder_Number (l : List AV) : cArgs tab n_coder_Number l = canonA [] l := rfl
attribute [go_sem] t_coder_Number ca_coder_Number
theorem ca_slices_Concat_sl_byte_byte (l : List AV) : cArgs tab n_slices_Concat_sl_byte_byte l = canonA [] l := rfl
attribute [go_sem] t_slices_Concat_sl_byte_byte ca_slices_Concat_sl_byte_byte
theorem ca_slices_Grow_sl_byte_byte (l : List AV) : cArgs tab n_slices_Grow_sl_byte_byte l = canonA [true, false] l := rfl
attribute [go_sem] t_slices_Grow_sl_byte_byte ca_slices_Grow_sl_byte_byte
theorem ca_digest_None (l : List AV) : cArgs tab n_digest_None l = canonA [] l := rfl
attribute [go_sem] t_digest_None ca_digest_None
theorem ca_digest_Value (l : List AV) : cArgs tab n_digest_Value l = canonA [] l := rfl
attribute [go_sem] t_digest_Value ca_digest_Value
theorem ca_digest_Of (l : List AV) : cArgs tab n_digest_Of l = canonA [] l := rfl
attribute [go_sem] t_digest_Of ca_digest_Of
theorem ca_sha_Sum (l : List AV) : cArgs tab n_sha_Sum l = canonA [] l := rfl
attribute [go_sem] t_sha_Sum ca_sha_Sum
theorem ca_sha_Tail (l : List AV) : cArgs tab n_sha_Tail l = canonA [] l := rfl
attribute [go_sem] t_sha_Tail ca_sha_Tail
theorem ca_sha_Step (l : List AV) : cArgs tab n_sha_Step l = canonA [] l := rfl
attribute [go_sem] t_sha_Step ca_sha_Step
theorem ca_sha_Words (l : List AV) : cArgs tab n_sha_Words l = canonA [] l := rfl
attribute [go_sem] t_sha_Words ca_sha_Words
theorem ca_math_bits_RotateLeft32 (l : List AV) : cArgs tab n_math_bits_RotateLeft32 l = canonA [] l := rfl
attribute [go_sem] t_math_bits_RotateLeft32 ca_math_bits_RotateLeft32
theorem ca_sha_Round (l : List AV) : cArgs tab n_sha_Round l = canonA [] l := rfl
attribute [go_sem] t_sha_Round ca_sha_Round
theorem ca_slices_Clone_sl_byte_byte (l : List AV) : cArgs tab n_slices_Clone_sl_byte_byte l = canonA [] l := rfl
attribute [go_sem] t_slices_Clone_sl_byte_byte ca_slices_Clone_sl_byte_byte
theorem ca_digest_Node (l : List AV) : cArgs tab n_digest_Node l = canonA [] l := rfl
attribute [go_sem] t_digest_Node ca_digest_Node
theorem kt_law03_DigestStays_r (l : List AV) : keepT i_law03_DigestStays_r l = keepT [false, false, false, false, true, false, false, false, false, false, false, false, false, false, false, false, false, false, false, false, false, false, false, false, false, false, false, false, false, false, false, false, false, false, false, false, false, false, false, false, false, false, false, false, false, false, false, false, false, false, false, false, false, false, false, false, false, false, false, false, false, false, false, false, false, false, false, false, false, false, false, false, false, false, false, false, false, false, false, false, false, false, false, false, false, false, false, false, false, false, false, false, false, false, false, false, false, false, false, false, false, false, false, false, false, false, false, false, false, false, false, false, false, false, false, false, false, false, false, false, false, false, false, false, false, false, false, false, false, false, false, false, false, false, false, false, false, false, false, false, false, false, false, false, false, false, false, false, false, false, false, false, false, false, false, false, false, false, false, false, false, false, false, false, false, false, false, false, false, false, false, false, false, false, false] l := rfl
attribute [go_sem] kt_law03_DigestStays_r
theorem kt_law03_DigestStays_j1 (l : List AV) : keepT i_law03_DigestStays_j1 l = keepT [true, false, false, true, false, true, true, true, true, true, true, true, true, true, true, true, true, false, false, false, false, false, false, false, false, false, false, false, false, false, false, false, false, false, false, false, false, false, false, false, false, false, false, false, false, false, false, false, false, false, false, false, false, false, false, false, false, false, false, false, false, false, false, false, false, false, false, false, false, false, false, false, false, false, false, false, false, false, false, false, false, false, false, false, false, false, false, false, false, false, false, false, false, false, false, false, false, false, false, false, false, false, false, false, false, false, false, false, false, false, false, false, false, false, false, false, false, false, false, false, false, false, false, false, false, false, false, false, false, false, false, false, false, false, false, false, false, false, false, false, false, false, false, false, false, false, false, false, false, false, false, false, false, false, false, false, false, false, false, false, false, false, false, false, false, false, false, false, false, false, false, false, false, false, false] l := rfl
attribute [go_sem] kt_law03_DigestStays_j1
theorem kt_law03_DigestStays_k0 (l : List AV) : keepT i_law03_DigestStays_k0 l = keepT [true, false, false, true, false, true, true, true, true, true, true, true, true, true, true, true, true, false, false, false, false, false, false, false, false, false, false, false, false, false, false, false, false, false, false, false, false, false, false, false, false, false, false, false, false, false, false, false, false, false, false, false, false, false, false, false, false, false, false, false, false, false, false, false, false, false, false, false, false, false, false, false, false, false, false, false, false, false, false, false, false, false, false, false, false, false, false, false, false, false, false, false, false, false, false, false, false, false, false, false, false, false, false, false, false, false, false, false, false, false, false, false, false, false, false, false, false, false, false, false, false, false, false, false, false, false, false, false, false, false, false, false, false, false, false, false, false, false, false, false, false, false, false, false, false, false, false, false, false, false, false, false, false, false, false, false, false, false, false, false, false, false, false, false, false, false, false, false, false, false, false, false, false, false, false] l := rfl
attribute [go_sem] kt_law03_DigestStays_k0
theorem kt_law03_DigestStays_j0 (l : List AV) : keepT i_law03_DigestStays_j0 l = keepT [true, false, false, true, false, true, false, true, true, true, true, true, true, true, true, true, false, false, false, false, false, false, false, false, false, false, false, false, false, false, false, false, false, false, false, false, false, false, false, false, false, false, false, false, false, false, false, false, false, false, false, false, false, false, false, false, false, false, false, false, false, false, false, false, false, false, false, false, false, false, false, false, false, false, false, false, false, false, false, false, false, false, false, false, false, false, false, false, false, false, false, false, false, false, false, false, false, false, false, false, false, false, false, false, false, false, false, false, false, false, false, false, false, false, false, false, false, false, false, false, false, false, false, false, false, false, false, false, false, false, false, false, false, false, false, false, false, false, false, false, false, false, false, false, false, false, false, false, false, false, false, false, false, false, false, false, false, false, false, false, false, false, false, false, false, false, false, false, false, false, false, false, false, false, false] l := rfl
attribute [go_sem] kt_law03_DigestStays_j0
theorem kt_law03_up_r (l : List AV) : keepT i_law03_up_r l = keepT [true, false, false, false, false, false, false, false, false, false, false, false, false, false, false, false, false, false, false, false, false, false] l := rfl
attribute [go_sem] kt_law03_up_r
theorem kt_digest_Pair_r (l : List AV) : keepT i_digest_Pair_r l = keepT [false, false, false, false, false, false, true, true, false, false, false, false, false, false, false, false, false, false, false, false, false, false, false, false] l := rfl
attribute [go_sem] kt_digest_Pair_r
theorem kt_digest_width_r (l : List AV) : keepT i_digest_width_r l = keepT [false, false, true, false, false, false, false, false, false] l := rfl
attribute [go_sem] kt_digest_width_r
theorem kt_coder_Bytes_r (l : List AV) : keepT i_coder_Bytes_r l = keepT [false, false, true, false, false, false, false, false, false] l := rfl
attribute [go_sem] kt_coder_Bytes_r
theorem kt_coder_Number_r (l : List AV) : keepT i_coder_Number_r l = keepT [false, false, true, false, false, false, false, false, false, false, false, false, false, false, false, false, false, false, false, false, false, false, false, false, false, false, false, false, false, false, false, false, false, false, false, false, false, false, false, false, false, false, false] l := rfl
attribute [go_sem] kt_coder_Number_r
theorem kt_coder_Number_j1 (l : List AV) : keepT i_coder_Number_j1 l = keepT [true, false, false, true, false, false, false, false, false, false, false, false, false, false, false, false, false, false, false, false, false, false, false, false, false, false, false, false, false, false, false, false, false, false, false, false, false, false, false, false, false, false, false] l := rfl
attribute [go_sem] kt_coder_Number_j1
theorem kt_coder_Number_k0 (l : List AV) : keepT i_coder_Number_k0 l = keepT [true, false, false, true, false, false, false, false, false, false, false, false, false, false, false, false, false, false, false, false, false, false, false, false, false, false, false, false, false, false, false, false, false, false, false, false, false, false, false, false, false, false, false] l := rfl
attribute [go_sem] kt_coder_Number_k0
theorem kt_coder_Number_j0 (l : List AV) : keepT i_coder_Number_j0 l = keepT [true, false, false, true, false, false, false, false, false, false, false, false, false, false, false, false, false, false, false, false, false, false, false, false, false, false, false, false, false, false, false, false, false, false, false, false, false, false, false, false, false, false, false] l := rfl
attribute [go_sem] kt_coder_Number_j0
theorem kt_coder_Number_j3 (l : List AV) : keepT i_coder_Number_j3 l = keepT [true, false, false, true, true, false, false, false, false, false, false, false, false, false, false, false, false, false, false, false, false, false, false, false, false, false, true, true, false, false, false, false, false, false, false, false, false, false, false, false, false, false, false] l := rfl
attribute [go_sem] kt_coder_Number_j3
theorem kt_coder_Number_k1 (l : List AV) : keepT i_coder_Number_k1 l = keepT [true, false, false, true, true, false, false, false, false, false, false, false, false, false, false, false, false, false, false, false, false, false, false, false, false, false, true, true, false, false, false, false, false, false, false, false, false, false, false, false, false, false, false] l := rfl
attribute [go_sem] kt_coder_Number_k1
theorem kt_coder_Number_j2 (l : List AV) : keepT i_coder_Number_j2 l = keepT [false, false, false, false, true, false, false, false, false, false, false, false, false, false, false, false, false, false, false, false, false, false, false, false, false, false, false, false, false, false, false, false, false, false, false, false, false, false, false, false, false, false, false] l := rfl
attribute [go_sem] kt_coder_Number_j2
theorem kt_slices_Concat_sl_byte_byte_r (l : List AV) : keepT i_slices_Concat_sl_byte_byte_r l = keepT [false, false, true, false, false, false, false, false, false, false, false, false, false, false, false, false, false, false, false, false, false, false, false, false, false, false, false, false, false, false, false, false, false, false, false, false] l := rfl
attribute [go_sem] kt_slices_Concat_sl_byte_byte_r
theorem kt_slices_Concat_sl_byte_byte_j1 (l : List AV) : keepT i_slices_Concat_sl_byte_byte_j1 l = keepT [true, false, false, true, false, false, false, false, false, true, true, true, false, false, false, false, false, false, false, false, false, false, false, false, false, false, false, false, false, false, false, false, false, false, false, false] l := rfl
attribute [go_sem] kt_slices_Concat_sl_byte_byte_j1
theorem kt_slices_Concat_sl_byte_byte_k0 (l : List AV) : keepT i_slices_Concat_sl_byte_byte_k0 l = keepT [true, false, false, true, false, false, false, false, false, true, true, true, false, false, false, false, false, false, false, false, false, false, false, false, false, false, false, false, false, false, false, false, false, false, false, false] l := rfl
attribute [go_sem] kt_slices_Concat_sl_byte_byte_k0
theorem kt_slices_Concat_sl_byte_byte_j0 (l : List AV) : keepT i_slices_Concat_sl_byte_byte_j0 l = keepT [true, false, false, true, false, false, false, false, false, false, false, false, false, false, false, false, false, false, false, false, false, false, false, false, false, false, false, false, false, false, false, false, false, false, false, false] l := rfl
attribute [go_sem] kt_slices_Concat_sl_byte_byte_j0
theorem kt_slices_Concat_sl_byte_byte_j3 (l : List AV) : keepT i_slices_Concat_sl_byte_byte_j3 l = keepT [false, false, false, false, false, false, true, false, false, false, false, false, false, false, false, false, false, false, false, false, false, false, false, false, false, true, true, true, false, false, false, false, false, false, false, false] l := rfl
attribute [go_sem] kt_slices_Concat_sl_byte_byte_j3
theorem kt_slices_Concat_sl_byte_byte_k1 (l : List AV) : keepT i_slices_Concat_sl_byte_byte_k1 l = keepT [false, false, false, false, false, false, true, false, false, false, false, false, false, false, false, false, false, false, false, false, false, false, false, false, false, true, true, true, false, false, false, false, false, false, false, false] l := rfl
attribute [go_sem] kt_slices_Concat_sl_byte_byte_k1
theorem kt_slices_Concat_sl_byte_byte_j2 (l : List AV) : keepT i_slices_Concat_sl_byte_byte_j2 l = keepT [false, false, false, false, false, false, true, false, false, false, false, false, false, false, false, false, false, false, false, false, false, false, false, false, false, false, false, false, false, false, false, false, false, false, false, false] l := rfl
attribute [go_sem] kt_slices_Concat_sl_byte_byte_j2
theorem kt_slices_Grow_sl_byte_byte_r (l : List AV) : keepT i_slices_Grow_sl_byte_byte_r l = keepT [false, false, false, false, true, false, false, false, false, false, false, false, false, false, false, false, false, false, false, false, false, false, false, false, false, false, false] l := rfl
attribute [go_sem] kt_slices_Grow_sl_byte_byte_r
theorem kt_digest_None_r (l : List AV) : keepT i_digest_None_r l = keepT [true, false] l := rfl
attribute [go_sem] kt_digest_None_r
theorem kt_digest_Value_r (l : List AV) : keepT i_digest_Value_r l = keepT [false, false, true, false, false, false] l := rfl
attribute [go_sem] kt_digest_Value_r
theorem kt_digest_Of_r (l : List AV) : keepT i_digest_Of_r l = keepT [false, false, false, false, true, true, false, false, false, false, false, false, false, false, false] l := rfl
attribute [go_sem] kt_digest_Of_r
theorem kt_sha_Sum_r (l : List AV) : keepT i_sha_Sum_r l = keepT [false, false, true, false, false, false, false, false, false, false, false, false, false, false, false, false, false, false, false, false, false, false, false, false, false, false, false, false, false, false, false, false, false, false, false, false, false, false, false, false, false, false, false, false, false, false, false, false, false, false, false, false, false, false, false, false, false, false, false, false, false, false, false, false, false, false, false, false, false, false, false, false, false, false, false, false] l := rfl
attribute [go_sem] kt_sha_Sum_r
theorem kt_sha_Sum_j3 (l : List AV) : keepT i_sha_Sum_j3 l = keepT [false, false, false, false, false, false, false, true, false, true, false, false, false, false, false, false, false, false, false, false, false, false, false, false, false, false, false, false, false, false, false, false, false, false, false, false, false, true, true, false, false, false, false, false, false, false, false, false, false, false, false, false, false, false, false, false, false, false, false, false, false, false, false, false, false, false, false, false, false, false, false, false, false, false, false, false] l := rfl
attribute [go_sem] kt_sha_Sum_j3
theorem kt_sha_Sum_k1 (l : List AV) : keepT i_sha_Sum_k1 l = keepT [false, false, false, false, false, false, false, true, false, true, false, false, false, false, false, false, false, false, false, false, false, false, false, false, false, false, false, false, false, false, false, false, false, false, false, false, false, true, true, false, false, false, false, false, false, false, false, false, false, false, false, false, false, false, false, false, false, false, false, false, false, false, false, false, false, false, false, false, false, false, false, false, false, false, false, false] l := rfl
attribute [go_sem] kt_sha_Sum_k1
theorem kt_sha_Sum_j2 (l : List AV) : keepT i_sha_Sum_j2 l = keepT [false, false, false, false, false, false, false, true, false, false, false, false, false, false, false, false, false, false, false, false, false, false, false, false, false, false, false, false, false, false, false, false, false, false, false, false, false, true, true, false, false, false, false, false, false, false, false, false, false, false, false, false, false, false, false, false, false, false, false, false, false, false, false, false, false, false, false, false, false, false, false, false, false, false, false, false] l := rfl
attribute [go_sem] kt_sha_Sum_j2
theorem kt_sha_Sum_j1 (l : List AV) : keepT i_sha_Sum_j1 l = keepT [false, false, false, false, false, false, false, true, false, false, false, false, false, false, false, false, false, false, false, false, false, false, false, false, false, false, false, false, false, false, false, false, false, false, false, false, false, true, true, false, false, false, false, false, false, false, false, false, false, false, false, false, false, false, false, false, false, false, false, false, false, false, false, false, false, false, false, false, false, false, false, false, false, false, false, false] l := rfl
attribute [go_sem] kt_sha_Sum_j1
theorem kt_sha_Sum_k0 (l : List AV) : keepT i_sha_Sum_k0 l = keepT [false, false, false, false, false, false, false, true, false, false, false, false, false, false, false, false, false, false, false, false, false, false, false, false, false, false, false, false, false, false, false, false, false, false, false, false, false, true, true, false, false, false, false, false, false, false, false, false, false, false, false, false, false, false, false, false, false, false, false, false, false, false, false, false, false, false, false, false, false, false, false, false, false, false, false, false] l := rfl
attribute [go_sem] kt_sha_Sum_k0
theorem kt_sha_Sum_j0 (l : List AV) : keepT i_sha_Sum_j0 l = keepT [false, false, false, false, false, false, false, true, false, false, false, false, false, false, false, false, false, false, false, false, false, false, false, false, false, false, false, false, false, false, false, false, false, false, false, false, false, false, false, false, false, false, false, false, false, false, false, false, false, false, false, false, false, false, false, false, false, false, false, false, false, false, false, false, false, false, false, false, false, false, false, false, false, false, false, false] l := rfl
attribute [go_sem] kt_sha_Sum_j0
theorem kt_sha_Sum_j5 (l : List AV) : keepT i_sha_Sum_j5 l = keepT [false, false, false, false, false, false, false, false, false, false, true, false, false, false, false, false, false, false, false, false, false, false, false, false, false, false, false, false, false, false, false, false, false, false, false, false, false, false, false, false, false, false, false, false, false, false, false, false, false, false, false, false, false, false, false, false, true, true, false, false, false, false, false, false, false, false, false, false, false, false, false, false, false, false, false, false] l := rfl
attribute [go_sem] kt_sha_Sum_j5
theorem kt_sha_Sum_k2 (l : List AV) : keepT i_sha_Sum_k2 l = keepT [false, false, false, false, false, false, false, false, false, false, true, false, false, false, false, false, false, false, false, false, false, false, false, false, false, false, false, false, false, false, false, false, false, false, false, false, false, false, false, false, false, false, false, false, false, false, false, false, false, false, false, false, false, false, false, false, true, true, false, false, false, false, false, false, false, false, false, false, false, false, false, false, false, false, false, false] l := rfl
attribute [go_sem] kt_sha_Sum_k2
theorem kt_sha_Sum_j4 (l : List AV) : keepT i_sha_Sum_j4 l = keepT [false, false, false, false, false, false, false, false, false, false, true, false, false, false, false, false, false, false, false, false, false, false, false, false, false, false, false, false, false, false, false, false, false, false, false, false, false, false, false, false, false, false, false, false, false, false, false, false, false, false, false, false, false, false, false, false, false, false, false, false, false, false, false, false, false, false, false, false, false, false, false, false, false, false, false, false] l := rfl
attribute [go_sem] kt_sha_Sum_j4
theorem kt_sha_Tail_r (l : List AV) : keepT i_sha_Tail_r l = keepT [false, false, true, true, false, false, false, false, false, false, false, false, false, false, false, false, false, false, false, false, false, false, false, false, false, false, false, false, false, false, false, false, false, false, false, false, false] l := rfl
attribute [go_sem] kt_sha_Tail_r
theorem kt_sha_Tail_j1 (l : List AV) : keepT i_sha_Tail_j1 l = keepT [true, false, false, false, true, false, false, false, false, false, false, false, false, false, false, false, false, false, false, false, false, false, false, false, false, false, false, false, false, false, false, false, false, false, false, false, false] l := rfl
attribute [go_sem] kt_sha_Tail_j1
theorem kt_sha_Tail_k0 (l : List AV) : keepT i_sha_Tail_k0 l = keepT [true, false, false, false, true, false, false, false, false, false, false, false, false, false, false, false, false, false, false, false, false, false, false, false, false, false, false, false, false, false, false, false, false, false, false, false, false] l := rfl
attribute [go_sem] kt_sha_Tail_k0
theorem kt_sha_Tail_j0 (l : List AV) : keepT i_sha_Tail_j0 l = keepT [true, false, false, false, true, false, false, false, false, false, false, false, false, false, false, false, false, false, false, false, false, false, false, false, false, false, false, false, false, false, false, false, false, false, false, false, false] l := rfl
attribute [go_sem] kt_sha_Tail_j0
theorem kt_sha_Tail_j3 (l : List AV) : keepT i_sha_Tail_j3 l = keepT [true, false, false, false, true, true, false, false, false, false, false, false, false, false, false, false, false, false, false, false, false, false, false, false, false, false, false, false, false, false, false, false, false, false, false, false, false] l := rfl
attribute [go_sem] kt_sha_Tail_j3
theorem kt_sha_Tail_k1 (l : List AV) : keepT i_sha_Tail_k1 l = keepT [true, false, false, false, true, true, false, false, false, false, false, false, false, false, false, false, false, false, false, false, false, false, false, false, false, false, false, false, false, false, false, false, false, false, false, false, false] l := rfl
attribute [go_sem] kt_sha_Tail_k1
theorem kt_sha_Tail_j2 (l : List AV) : keepT i_sha_Tail_j2 l = keepT [false, false, false, false, true, false, false, false, false, false, false, false, false, false, false, false, false, false, false, false, false, false, false, false, false, false, false, false, false, false, false, false, false, false, false, false, false] l := rfl
attribute [go_sem] kt_sha_Tail_j2
theorem kt_sha_Step_r (l : List AV) : keepT i_sha_Step_r l = keepT [false, false, false, false, true, true, false, false, false, false, false, false, false, false, false, false, false, false, false, false, false, false, false, false, false, false, false, false, false, false, false, false, false, false, false, false, false, false, false, false, false, false, false, false, false, false, false, false, false] l := rfl
attribute [go_sem] kt_sha_Step_r
theorem kt_sha_Step_j1 (l : List AV) : keepT i_sha_Step_j1 l = keepT [false, false, true, false, true, false, false, false, true, false, false, false, false, false, false, false, false, false, false, false, false, false, true, true, true, false, false, false, false, false, false, false, false, false, false, false, false, false, false, false, false, false, false, false, false, false, false, false, false] l := rfl
attribute [go_sem] kt_sha_Step_j1
theorem kt_sha_Step_k0 (l : List AV) : keepT i_sha_Step_k0 l = keepT [false, false, true, false, true, false, false, false, true, false, false, false, false, false, false, false, false, false, false, false, false, false, true, true, true, false, false, false, false, false, false, false, false, false, false, false, false, false, false, false, false, false, false, false, false, false, false, false, false] l := rfl
attribute [go_sem] kt_sha_Step_k0
theorem kt_sha_Step_j0 (l : List AV) : keepT i_sha_Step_j0 l = keepT [false, false, true, false, true, false, false, false, true, false, false, false, false, false, false, false, false, false, false, false, false, false, false, false, false, false, false, false, false, false, false, false, false, false, false, false, false, false, false, false, false, false, false, false, false, false, false, false, false] l := rfl
attribute [go_sem] kt_sha_Step_j0
theorem kt_sha_Step_j3 (l : List AV) : keepT i_sha_Step_j3 l = keepT [false, false, true, false, true, false, false, false, true, false, false, false, false, false, false, false, false, false, false, false, false, false, false, false, false, false, false, false, false, false, false, false, false, false, false, false, true, false, false, false, false, false, false, false, false, false, false, false, false] l := rfl
attribute [go_sem] kt_sha_Step_j3
theorem kt_sha_Step_k1 (l : List AV) : keepT i_sha_Step_k1 l = keepT [false, false, true, false, true, false, false, false, true, false, false, false, false, false, false, false, false, false, false, false, false, false, false, false, false, false, false, false, false, false, false, false, false, false, false, false, true, false, false, false, false, false, false, false, false, false, false, false, false] l := rfl
attribute [go_sem] kt_sha_Step_k1
theorem kt_sha_Step_j2 (l : List AV) : keepT i_sha_Step_j2 l = keepT [false, false, true, false, true, false, false, false, false, false, false, false, false, false, false, false, false, false, false, false, false, false, false, false, false, false, false, false, false, false, false, false, false, false, false, false, false, false, false, false, false, false, false, false, false, false, false, false, false] l := rfl
attribute [go_sem] kt_sha_Step_j2
theorem kt_sha_Words_r (l : List AV) : keepT i_sha_Words_r l = keepT [false, false, true, true, false, false, false, false, false, false, false, false, false, false, false, false, false, false, false, false, false, false, false, false, false, false, false, false, false, false, false, false, false, false, false, false, false, false, false, false, false, false, false, false, false, false, false, false, false, false, false, false, false, false, false, false, false, false, false, false, false, false, false, false, false, false, false, false, false, false, false, false, false, false, false, false, false, false, false, false, false, false, false, false, false, false, false] l := rfl
attribute [go_sem] kt_sha_Words_r
theorem kt_sha_Words_j1 (l : List AV) : keepT i_sha_Words_j1 l = keepT [false, false, false, false, true, false, false, false, false, false, false, false, false, false, false, false, false, true, true, true, false, false, false, false, false, false, false, false, false, false, false, false, false, false, false, false, false, false, false, false, false, false, false, false, false, false, false, false, false, false, false, false, false, false, false, false, false, false, false, false, false, false, false, false, false, false, false, false, false, false, false, false, false, false, false, false, false, false, false, false, false, false, false, false, false, false, false] l := rfl
attribute [go_sem] kt_sha_Words_j1
theorem kt_sha_Words_k0 (l : List AV) : keepT i_sha_Words_k0 l = keepT [false, false, false, false, true, false, false, false, false, false, false, false, false, false, false, false, false, true, true, true, false, false, false, false, false, false, false, false, false, false, false, false, false, false, false, false, false, false, false, false, false, false, false, false, false, false, false, false, false, false, false, false, false, false, false, false, false, false, false, false, false, false, false, false, false, false, false, false, false, false, false, false, false, false, false, false, false, false, false, false, false, false, false, false, false, false, false] l := rfl
attribute [go_sem] kt_sha_Words_k0
theorem kt_sha_Words_j0 (l : List AV) : keepT i_sha_Words_j0 l = keepT [false, false, false, false, true, false, false, false, false, false, false, false, false, false, false, false, false, false, false, false, false, false, false, false, false, false, false, false, false, false, false, false, false, false, false, false, false, false, false, false, false, false, false, false, false, false, false, false, false, false, false, false, false, false, false, false, false, false, false, false, false, false, false, false, false, false, false, false, false, false, false, false, false, false, false, false, false, false, false, false, false, false, false, false, false, false, false] l := rfl
attribute [go_sem] kt_sha_Words_j0
theorem kt_sha_Words_j3 (l : List AV) : keepT i_sha_Words_j3 l = keepT [false, false, false, false, true, false, false, true, false, false, false, false, false, false, false, false, false, false, false, false, false, false, false, false, false, false, false, false, false, false, false, false, false, false, false, false, false, false, false, false, false, false, false, false, false, false, false, false, false, false, false, false, false, false, false, false, false, false, false, false, false, false, false, false, false, false, false, false, false, false, false, false, false, false, false, false, false, false, false, false, false, false, false, false, false, false, false] l := rfl
attribute [go_sem] kt_sha_Words_j3
theorem kt_sha_Words_k1 (l : List AV) : keepT i_sha_Words_k1 l = keepT [false, false, false, false, true, false, false, true, false, false, false, false, false, false, false, false, false, false, false, false, false, false, false, false, false, false, false, false, false, false, false, false, false, false, false, false, false, false, false, false, false, false, false, false, false, false, false, false, false, false, false, false, false, false, false, false, false, false, false, false, false, false, false, false, false, false, false, false, false, false, false, false, false, false, false, false, false, false, false, false, false, false, false, false, false, false, false] l := rfl
attribute [go_sem] kt_sha_Words_k1
theorem kt_sha_Words_j2 (l : List AV) : keepT i_sha_Words_j2 l = keepT [false, false, false, false, true, false, false, false, false, false, false, false, false, false, false, false, false, false, false, false, false, false, false, false, false, false, false, false, false, false, false, false, false, false, false, false, false, false, false, false, false, false, false, false, false, false, false, false, false, false, false, false, false, false, false, false, false, false, false, false, false, false, false, false, false, false, false, false, false, false, false, false, false, false, false, false, false, false, false, false, false, false, false, false, false, false, false] l := rfl
attribute [go_sem] kt_sha_Words_j2
theorem kt_math_bits_RotateLeft32_r (l : List AV) : keepT i_math_bits_RotateLeft32_r l = keepT [false, false, false, false, true, false, false, false, false, false, false, false, false, false, false, false, false] l := rfl
attribute [go_sem] kt_math_bits_RotateLeft32_r
theorem kt_sha_Round_r (l : List AV) : keepT i_sha_Round_r l = keepT [false, false, false, false, false, false, true, false, false, false, false, false, false, false, false, false, false, false, false, false, false, false, false, false, false, false, false, false, false, false, false, false, false, false, false, false, false, false, false, false, false, false, false, false, false, false, false, false, false, false, false, false, false, false, false, false, false, false, false, false, false, false, false, false, false, false, false, false, false, false, false, false, false, false, false, false, false, false, false, false, false, false, false, false, false] l := rfl
attribute [go_sem] kt_sha_Round_r
theorem kt_slices_Clone_sl_byte_byte_r (l : List AV) : keepT i_slices_Clone_sl_byte_byte_r l = keepT [false, false, true, false, false, false, false, false] l := rfl
attribute [go_sem] kt_slices_Clone_sl_byte_byte_r
theorem kt_digest_Node_r (l : List AV) : keepT i_digest_Node_r l = keepT [false, false, false, false, false, false, false, false, true, true, false, false, false, false, false, false, false, false, false, false, false, false, false, false, false, false, false, false, false, false, false, false, false, false, false, false, false, false] l := rfl
attribute [go_sem] kt_digest_Node_r
noncomputable def L_law03_DigestStays_0 (st : St) : Option (Ex × St) := lp tab G0 11 i_law03_DigestStays_k0 i_law03_DigestStays_b0 st
theorem L_law03_DigestStays_0_eq (st : St) : L_law03_DigestStays_0 st = againL L_law03_DigestStays_0 11 i_law03_DigestStays_k0 (app tab G0 11 [] (ex tab G0 11 i_law03_DigestStays_b0 st)) := lp_eq tab G0 11 i_law03_DigestStays_k0 i_law03_DigestStays_b0 st
theorem L_law03_DigestStays_0_in (K : List Fr) (st : St) : app tab G0 11 K (ex tab G0 11 (.loop i_law03_DigestStays_k0 i_law03_DigestStays_b0) st) = app tab G0 11 K (L_law03_DigestStays_0 (clean 11 i_law03_DigestStays_k0 st)) := rfl
attribute [go_sem] L_law03_DigestStays_0_in
noncomputable def L_coder_Number_0 (st : St) : Option (Ex × St) := lp tab G0 1 i_coder_Number_k0 i_coder_Number_b0 st
theorem L_coder_Number_0_eq (st : St) : L_coder_Number_0 st = againL L_coder_Number_0 1 i_coder_Number_k0 (app tab G0 1 [] (ex tab G0 1 i_coder_Number_b0 st)) := lp_eq tab G0 1 i_coder_Number_k0 i_coder_Number_b0 st
theorem L_coder_Number_0_in (K : List Fr) (st : St) : app tab G0 1 K (ex tab G0 1 (.loop i_coder_Number_k0 i_coder_Number_b0) st) = app tab G0 1 K (L_coder_Number_0 (clean 1 i_coder_Number_k0 st)) := rfl
attribute [go_sem] L_coder_Number_0_in
noncomputable def L_coder_Number_1 (st : St) : Option (Ex × St) := lp tab G0 1 i_coder_Number_k1 i_coder_Number_b1 st
theorem L_coder_Number_1_eq (st : St) : L_coder_Number_1 st = againL L_coder_Number_1 1 i_coder_Number_k1 (app tab G0 1 [] (ex tab G0 1 i_coder_Number_b1 st)) := lp_eq tab G0 1 i_coder_Number_k1 i_coder_Number_b1 st
theorem L_coder_Number_1_in (K : List Fr) (st : St) : app tab G0 1 K (ex tab G0 1 (.loop i_coder_Number_k1 i_coder_Number_b1) st) = app tab G0 1 K (L_coder_Number_1 (clean 1 i_coder_Number_k1 st)) := rfl
attribute [go_sem] L_coder_Number_1_in
noncomputable def L_slices_Concat_sl_byte_byte_0 (st : St) : Option (Ex × St) := lp tab G0 2 i_slices_Concat_sl_byte_byte_k0 i_slices_Concat_sl_byte_byte_b0 st
theorem L_slices_Concat_sl_byte_byte_0_eq (st : St) : L_slices_Concat_sl_byte_byte_0 st = againL L_slices_Concat_sl_byte_byte_0 2 i_slices_Concat_sl_byte_byte_k0 (app tab G0 2 [] (ex tab G0 2 i_slices_Concat_sl_byte_byte_b0 st)) := lp_eq tab G0 2 i_slices_Concat_sl_byte_byte_k0 i_slices_Concat_sl_byte_byte_b0 st
theorem L_slices_Concat_sl_byte_byte_0_in (K : List Fr) (st : St) : app tab G0 2 K (ex tab G0 2 (.loop i_slices_Concat_sl_byte_byte_k0 i_slices_Concat_sl_byte_byte_b0) st) = app tab G0 2 K (L_slices_Concat_sl_byte_byte_0 (clean 2 i_slices_Concat_sl_byte_byte_k0 st)) := rfl
attribute [go_sem] L_slices_Concat_sl_byte_byte_0_in
noncomputable def L_slices_Concat_sl_byte_byte_1 (st : St) : Option (Ex × St) := lp tab G0 2 i_slices_Concat_sl_byte_byte_k1 i_slices_Concat_sl_byte_byte_b1 st
theorem L_slices_Concat_sl_byte_byte_1_eq (st : St) : L_slices_Concat_sl_byte_byte_1 st = againL L_slices_Concat_sl_byte_byte_1 2 i_slices_Concat_sl_byte_byte_k1 (app tab G0 2 [] (ex tab G0 2 i_slices_Concat_sl_byte_byte_b1 st)) := lp_eq tab G0 2 i_slices_Concat_sl_byte_byte_k1 i_slices_Concat_sl_byte_byte_b1 st
theorem L_slices_Concat_sl_byte_byte_1_in (K : List Fr) (st : St) : app tab G0 2 K (ex tab G0 2 (.loop i_slices_Concat_sl_byte_byte_k1 i_slices_Concat_sl_byte_byte_b1) st) = app tab G0 2 K (L_slices_Concat_sl_byte_byte_1 (clean 2 i_slices_Concat_sl_byte_byte_k1 st)) := rfl
attribute [go_sem] L_slices_Concat_sl_byte_byte_1_in
noncomputable def L_sha_Sum_1 (st : St) : Option (Ex × St) := lp tab G0 3 i_sha_Sum_k1 i_sha_Sum_b1 st
theorem L_sha_Sum_1_eq (st : St) : L_sha_Sum_1 st = againL L_sha_Sum_1 3 i_sha_Sum_k1 (app tab G0 3 [] (ex tab G0 3 i_sha_Sum_b1 st)) := lp_eq tab G0 3 i_sha_Sum_k1 i_sha_Sum_b1 st
theorem L_sha_Sum_1_in (K : List Fr) (st : St) : app tab G0 3 K (ex tab G0 3 (.loop i_sha_Sum_k1 i_sha_Sum_b1) st) = app tab G0 3 K (L_sha_Sum_1 (clean 3 i_sha_Sum_k1 st)) := rfl
attribute [go_sem] L_sha_Sum_1_in
noncomputable def L_sha_Sum_0 (st : St) : Option (Ex × St) := lp tab G0 3 i_sha_Sum_k0 i_sha_Sum_b0 st
theorem L_sha_Sum_0_eq (st : St) : L_sha_Sum_0 st = againL L_sha_Sum_0 3 i_sha_Sum_k0 (app tab G0 3 [] (ex tab G0 3 i_sha_Sum_b0 st)) := lp_eq tab G0 3 i_sha_Sum_k0 i_sha_Sum_b0 st
theorem L_sha_Sum_0_in (K : List Fr) (st : St) : app tab G0 3 K (ex tab G0 3 (.loop i_sha_Sum_k0 i_sha_Sum_b0) st) = app tab G0 3 K (L_sha_Sum_0 (clean 3 i_sha_Sum_k0 st)) := rfl
attribute [go_sem] L_sha_Sum_0_in
noncomputable def L_sha_Sum_2 (st : St) : Option (Ex × St) := lp tab G0 3 i_sha_Sum_k2 i_sha_Sum_b2 st
theorem L_sha_Sum_2_eq (st : St) : L_sha_Sum_2 st = againL L_sha_Sum_2 3 i_sha_Sum_k2 (app tab G0 3 [] (ex tab G0 3 i_sha_Sum_b2 st)) := lp_eq tab G0 3 i_sha_Sum_k2 i_sha_Sum_b2 st
theorem L_sha_Sum_2_in (K : List Fr) (st : St) : app tab G0 3 K (ex tab G0 3 (.loop i_sha_Sum_k2 i_sha_Sum_b2) st) = app tab G0 3 K (L_sha_Sum_2 (clean 3 i_sha_Sum_k2 st)) := rfl
attribute [go_sem] L_sha_Sum_2_in
noncomputable def L_sha_Tail_0 (st : St) : Option (Ex × St) := lp tab G0 1 i_sha_Tail_k0 i_sha_Tail_b0 st
theorem L_sha_Tail_0_eq (st : St) : L_sha_Tail_0 st = againL L_sha_Tail_0 1 i_sha_Tail_k0 (app tab G0 1 [] (ex tab G0 1 i_sha_Tail_b0 st)) := lp_eq tab G0 1 i_sha_Tail_k0 i_sha_Tail_b0 st
theorem L_sha_Tail_0_in (K : List Fr) (st : St) : app tab G0 1 K (ex tab G0 1 (.loop i_sha_Tail_k0 i_sha_Tail_b0) st) = app tab G0 1 K (L_sha_Tail_0 (clean 1 i_sha_Tail_k0 st)) := rfl
attribute [go_sem] L_sha_Tail_0_in
noncomputable def L_sha_Tail_1 (st : St) : Option (Ex × St) := lp tab G0 1 i_sha_Tail_k1 i_sha_Tail_b1 st
theorem L_sha_Tail_1_eq (st : St) : L_sha_Tail_1 st = againL L_sha_Tail_1 1 i_sha_Tail_k1 (app tab G0 1 [] (ex tab G0 1 i_sha_Tail_b1 st)) := lp_eq tab G0 1 i_sha_Tail_k1 i_sha_Tail_b1 st
theorem L_sha_Tail_1_in (K : List Fr) (st : St) : app tab G0 1 K (ex tab G0 1 (.loop i_sha_Tail_k1 i_sha_Tail_b1) st) = app tab G0 1 K (L_sha_Tail_1 (clean 1 i_sha_Tail_k1 st)) := rfl
attribute [go_sem] L_sha_Tail_1_in
noncomputable def L_sha_Step_0 (st : St) : Option (Ex × St) := lp tab G0 3 i_sha_Step_k0 i_sha_Step_b0 st
theorem L_sha_Step_0_eq (st : St) : L_sha_Step_0 st = againL L_sha_Step_0 3 i_sha_Step_k0 (app tab G0 3 [] (ex tab G0 3 i_sha_Step_b0 st)) := lp_eq tab G0 3 i_sha_Step_k0 i_sha_Step_b0 st
theorem L_sha_Step_0_in (K : List Fr) (st : St) : app tab G0 3 K (ex tab G0 3 (.loop i_sha_Step_k0 i_sha_Step_b0) st) = app tab G0 3 K (L_sha_Step_0 (clean 3 i_sha_Step_k0 st)) := rfl
attribute [go_sem] L_sha_Step_0_in
noncomputable def L_sha_Step_1 (st : St) : Option (Ex × St) := lp tab G0 3 i_sha_Step_k1 i_sha_Step_b1 st
theorem L_sha_Step_1_eq (st : St) : L_sha_Step_1 st = againL L_sha_Step_1 3 i_sha_Step_k1 (app tab G0 3 [] (ex tab G0 3 i_sha_Step_b1 st)) := lp_eq tab G0 3 i_sha_Step_k1 i_sha_Step_b1 st
theorem L_sha_Step_1_in (K : List Fr) (st : St) : app tab G0 3 K (ex tab G0 3 (.loop i_sha_Step_k1 i_sha_Step_b1) st) = app tab G0 3 K (L_sha_Step_1 (clean 3 i_sha_Step_k1 st)) := rfl
attribute [go_sem] L_sha_Step_1_in
noncomputable def L_sha_Words_0 (st : St) : Option (Ex × St) := lp tab G0 1 i_sha_Words_k0 i_sha_Words_b0 st
theorem L_sha_Words_0_eq (st : St) : L_sha_Words_0 st = againL L_sha_Words_0 1 i_sha_Words_k0 (app tab G0 1 [] (ex tab G0 1 i_sha_Words_b0 st)) := lp_eq tab G0 1 i_sha_Words_k0 i_sha_Words_b0 st
theorem L_sha_Words_0_in (K : List Fr) (st : St) : app tab G0 1 K (ex tab G0 1 (.loop i_sha_Words_k0 i_sha_Words_b0) st) = app tab G0 1 K (L_sha_Words_0 (clean 1 i_sha_Words_k0 st)) := rfl
attribute [go_sem] L_sha_Words_0_in
noncomputable def L_sha_Words_1 (st : St) : Option (Ex × St) := lp tab G0 1 i_sha_Words_k1 i_sha_Words_b1 st
theorem L_sha_Words_1_eq (st : St) : L_sha_Words_1 st = againL L_sha_Words_1 1 i_sha_Words_k1 (app tab G0 1 [] (ex tab G0 1 i_sha_Words_b1 st)) := lp_eq tab G0 1 i_sha_Words_k1 i_sha_Words_b1 st
theorem L_sha_Words_1_in (K : List Fr) (st : St) : app tab G0 1 K (ex tab G0 1 (.loop i_sha_Words_k1 i_sha_Words_b1) st) = app tab G0 1 K (L_sha_Words_1 (clean 1 i_sha_Words_k1 st)) := rfl
attribute [go_sem] L_sha_Words_1_in
end Go.Proofs.YthaegfemlhibfaaDoor
