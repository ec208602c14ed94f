/- The IR of the seat's functions, printed by a program of this session. -/
import Derived.Test.YthaegfemlhibfaaDoorEvE
set_option linter.unusedVariables false
namespace Go.Proofs.YthaegfemlhibfaaDoor
open Go.Ev

abbrev ty_uint8 : Nat := 5
abbrev ty_uint32 : Nat := 39
abbrev ty_api_Code : Nat := 45
abbrev n_law01_ShaStays : Nat := 3
abbrev n_sha_Sum : Nat := 5
abbrev n_sha_Words : Nat := 6
abbrev n_sha_Tail : Nat := 12
abbrev n_sha_Step : Nat := 13
abbrev n_math_bits_RotateLeft32 : Nat := 14
abbrev n_sha_Round : Nat := 20
def i_law01_ShaStays_r : List Bool := [false, false, false, false, true, false, false, false, false, false, false, false, false, false, false, false, false, false, false, false, false, false, false, false, false, false, false, false, false, false, false, false, false, false, false, false, false, false, false, false, false, false, false, false, false, false, false, false, false, false, false, false, false, false, false, false, false, false, false, false, false, false, false, false, false, false, false, false, false, false, false, false, false, false, false, false, false, false, false, false, false, false, false, false, false, false, false, false, false, false, false]
def i_law01_ShaStays_j1 : List Bool := [true, false, false, true, false, true, true, true, false, false, false, false, false, false, false, false, false, false, false, false, false, false, false, false, false, false, false, false, false, false, false, false, false, false, false, false, false, false, false, false, false, false, false, false, false, false, false, false, false, false, false, false, false, false, false, false, false, false, false, false, false, false, false, false, false, false, false, false, false, false, false, false, false, false, false, false, false, false, false, false, false, false, false, false, false, false, false, false, false, false, false]
def i_law01_ShaStays_k0 : List Bool := [true, false, false, true, false, true, true, true, false, false, false, false, false, false, false, false, false, false, false, false, false, false, false, false, false, false, false, false, false, false, false, false, false, false, false, false, false, false, false, false, false, false, false, false, false, false, false, false, false, false, false, false, false, false, false, false, false, false, false, false, false, false, false, false, false, false, false, false, false, false, false, false, false, false, false, false, false, false, false, false, false, false, false, false, false, false, false, false, false, false, false]
def i_law01_ShaStays_j0 : List Bool := [true, false, false, true, false, false, true, false, false, false, false, false, false, false, false, false, false, false, false, false, false, false, false, false, false, false, false, false, false, false, false, false, false, false, false, false, false, false, false, false, false, false, false, false, false, false, false, false, false, false, false, false, false, false, false, false, false, false, false, false, false, false, false, false, false, false, false, false, false, false, false, false, false, false, false, false, false, false, false, false, false, false, false, false, false, false, false, false, false, false, false]
def i_law01_ShaStays_j3 : List Bool := [false, false, false, true, false, false, true, false, true, true, true, false, false, false, false, false, false, false, false, false, false, false, false, false, false, false, false, false, false, false, false, false, false, false, false, false, false, false, false, false, false, false, false, false, false, false, false, false, false, false, false, false, false, false, false, false, false, false, false, false, false, false, false, false, false, false, false, false, false, false, false, false, false, false, false, false, false, false, false, false, false, false, false, false, false, false, false, false, false, false, false]
def i_law01_ShaStays_k1 : List Bool := [false, false, false, true, false, false, true, false, true, true, true, false, false, false, false, false, false, false, false, false, false, false, false, false, false, false, false, false, false, false, false, false, false, false, false, false, false, false, false, false, false, false, false, false, false, false, false, false, false, false, false, false, false, false, false, false, false, false, false, false, false, false, false, false, false, false, false, false, false, false, false, false, false, false, false, false, false, false, false, false, false, false, false, false, false, false, false, false, false, false, false]
def i_law01_ShaStays_j2 : List Bool := [false, false, false, true, false, false, true, false, true, true, false, false, false, false, false, false, false, false, false, false, false, false, false, false, false, false, false, false, false, false, false, false, false, false, false, false, false, false, false, false, false, false, false, false, false, false, false, false, false, false, false, false, false, false, false, false, false, false, false, false, false, false, false, false, false, false, false, false, false, false, false, false, false, false, false, false, false, false, false, false, false, false, false, false, false, false, false, false, false, false, false]
def i_law01_ShaStays_j5 : List Bool := [false, false, false, true, false, false, true, false, true, true, false, true, true, true, false, false, false, false, false, false, false, false, false, false, false, false, false, false, false, false, false, false, false, false, false, false, false, false, false, false, false, false, false, false, false, false, false, false, false, false, false, false, false, false, false, false, false, false, false, false, false, false, false, false, false, false, false, false, false, false, false, false, false, false, false, false, false, false, false, false, false, false, false, false, false, false, false, false, false, false, false]
def i_law01_ShaStays_k2 : List Bool := [false, false, false, true, false, false, true, false, true, true, false, true, true, true, false, false, false, false, false, false, false, false, false, false, false, false, false, false, false, false, false, false, false, false, false, false, false, false, false, false, false, false, false, false, false, false, false, false, false, false, false, false, false, false, false, false, false, false, false, false, false, false, false, false, false, false, false, false, false, false, false, false, false, false, false, false, false, false, false, false, false, false, false, false, false, false, false, false, false, false, false]
def i_law01_ShaStays_j4 : List Bool := [false, false, false, false, false, false, true, false, true, false, false, true, true, false, false, false, false, false, false, false, false, false, false, false, false, false, false, false, false, false, false, false, false, false, false, false, false, false, false, false, false, false, false, false, false, false, false, false, false, false, false, false, false, false, false, false, false, false, false, false, false, false, false, false, false, false, false, false, false, false, false, false, false, false, false, false, false, false, false, false, false, false, false, false, false, false, false, false, false, false, false]
abbrev s_law01_ShaStays_R (t4 : AV) (h : Heap) : St := ⟨[.undef, .undef, .undef, .undef, t4, .undef, .undef, .undef, .undef, .undef, .undef, .undef, .undef, .undef, .undef, .undef, .undef, .undef, .undef, .undef, .undef, .undef, .undef, .undef, .undef, .undef, .undef, .undef, .undef, .undef, .undef, .undef, .undef, .undef, .undef, .undef, .undef, .undef, .undef, .undef, .undef, .undef, .undef, .undef, .undef, .undef, .undef, .undef, .undef, .undef, .undef, .undef, .undef, .undef, .undef, .undef, .undef, .undef, .undef, .undef, .undef, .undef, .undef, .undef, .undef, .undef, .undef, .undef, .undef, .undef, .undef, .undef, .undef, .undef, .undef, .undef, .undef, .undef, .undef, .undef, .undef, .undef, .undef, .undef, .undef, .undef, .undef, .undef, .undef, .undef, .undef], h⟩
abbrev s_law01_ShaStays_K0 (t0 t3 t5 t6 t7 : AV) (h : Heap) : St := ⟨[t0, .undef, .undef, t3, .undef, t5, t6, t7, .undef, .undef, .undef, .undef, .undef, .undef, .undef, .undef, .undef, .undef, .undef, .undef, .undef, .undef, .undef, .undef, .undef, .undef, .undef, .undef, .undef, .undef, .undef, .undef, .undef, .undef, .undef, .undef, .undef, .undef, .undef, .undef, .undef, .undef, .undef, .undef, .undef, .undef, .undef, .undef, .undef, .undef, .undef, .undef, .undef, .undef, .undef, .undef, .undef, .undef, .undef, .undef, .undef, .undef, .undef, .undef, .undef, .undef, .undef, .undef, .undef, .undef, .undef, .undef, .undef, .undef, .undef, .undef, .undef, .undef, .undef, .undef, .undef, .undef, .undef, .undef, .undef, .undef, .undef, .undef, .undef, .undef, .undef], h⟩
def i_law01_ShaStays_b0 : IR :=
  (.seq
   (.seq
    (.reg [] [
      ⟨(some 34), .mv (.t 7), none, []⟩,
      ⟨(some 35), .cn (.t 5), none, []⟩,
      ⟨(some 36), .len false (.t 35), none, []⟩,
      ⟨(some 37), .bin .plain .lss (.t 34) (.t 36), none, []⟩])
    (.cond (.t 37)
     .skip
     (.exit 0 i_law01_ShaStays_j0)))
   (.seq
    (.block 1 i_law01_ShaStays_j1
     (.reg [] [
       ⟨(some 40), .mv (.t 5), none, []⟩,
       ⟨(some 41), .mv (.t 7), none, []⟩,
       ⟨(some 42), .cn (.t 5), none, []⟩,
       ⟨(some 43), .mv (.t 7), none, []⟩,
       ⟨(some 44), .ia 1 (.t 42) (.t 43), none, []⟩,
       ⟨(some 45), .load false 1 (.t 44), none, []⟩,
       ⟨(some 46), .bin .plain .add (.t 45) (.k (.int .u8 1)), none, []⟩,
       ⟨(some 47), .ia 1 (.t 40) (.t 41), none, []⟩,
       ⟨none, .store 1 (.t 47) (.t 46), none, []⟩]))
    (.reg [] [
      ⟨(some 38), .mv (.t 7), none, []⟩,
      ⟨(some 39), .bin .plain .add (.t 38) (.k (.int .i64 1)), none, []⟩,
      ⟨(some 7), .mv (.t 39), none, []⟩])))

abbrev s_law01_ShaStays_J0 (t0 t3 t6 : AV) (h : Heap) : St := ⟨[t0, .undef, .undef, t3, .undef, .undef, t6, .undef, .undef, .undef, .undef, .undef, .undef, .undef, .undef, .undef, .undef, .undef, .undef, .undef, .undef, .undef, .undef, .undef, .undef, .undef, .undef, .undef, .undef, .undef, .undef, .undef, .undef, .undef, .undef, .undef, .undef, .undef, .undef, .undef, .undef, .undef, .undef, .undef, .undef, .undef, .undef, .undef, .undef, .undef, .undef, .undef, .undef, .undef, .undef, .undef, .undef, .undef, .undef, .undef, .undef, .undef, .undef, .undef, .undef, .undef, .undef, .undef, .undef, .undef, .undef, .undef, .undef, .undef, .undef, .undef, .undef, .undef, .undef, .undef, .undef, .undef, .undef, .undef, .undef, .undef, .undef, .undef, .undef, .undef, .undef], h⟩
abbrev s_law01_ShaStays_K1 (t3 t6 t8 t9 t10 : AV) (h : Heap) : St := ⟨[.undef, .undef, .undef, t3, .undef, .undef, t6, .undef, t8, t9, t10, .undef, .undef, .undef, .undef, .undef, .undef, .undef, .undef, .undef, .undef, .undef, .undef, .undef, .undef, .undef, .undef, .undef, .undef, .undef, .undef, .undef, .undef, .undef, .undef, .undef, .undef, .undef, .undef, .undef, .undef, .undef, .undef, .undef, .undef, .undef, .undef, .undef, .undef, .undef, .undef, .undef, .undef, .undef, .undef, .undef, .undef, .undef, .undef, .undef, .undef, .undef, .undef, .undef, .undef, .undef, .undef, .undef, .undef, .undef, .undef, .undef, .undef, .undef, .undef, .undef, .undef, .undef, .undef, .undef, .undef, .undef, .undef, .undef, .undef, .undef, .undef, .undef, .undef, .undef, .undef], h⟩
def i_law01_ShaStays_b1 : IR :=
  (.seq
   (.seq
    (.reg [] [
      ⟨(some 50), .mv (.t 10), none, []⟩,
      ⟨(some 51), .bin .plain .lss (.t 50) (.k (.int .i64 64)), none, []⟩])
    (.cond (.t 51)
     .skip
     (.exit 2 i_law01_ShaStays_j2)))
   (.seq
    (.block 3 i_law01_ShaStays_j3
     (.reg [] [
       ⟨(some 54), .mv (.t 9), none, []⟩,
       ⟨(some 55), .mv (.t 10), none, []⟩,
       ⟨(some 56), .iap 64 1 (.t 3) (.t 55), none, []⟩,
       ⟨(some 57), .load false 1 (.t 56), none, []⟩,
       ⟨(some 58), .litd 1 1 [(.int .u8 0)] [(0, (.t 57))], none, []⟩,
       ⟨(some 59), .app 4 ty_uint8 1 1 (.t 54) (.t 58), none, []⟩,
       ⟨(some 9), .mv (.t 59), none, []⟩]))
    (.reg [] [
      ⟨(some 52), .mv (.t 10), none, []⟩,
      ⟨(some 53), .bin .plain .add (.t 52) (.k (.int .i64 1)), none, []⟩,
      ⟨(some 10), .mv (.t 53), none, []⟩])))

abbrev s_law01_ShaStays_J2 (t3 t6 t8 t9 : AV) (h : Heap) : St := ⟨[.undef, .undef, .undef, t3, .undef, .undef, t6, .undef, t8, t9, .undef, .undef, .undef, .undef, .undef, .undef, .undef, .undef, .undef, .undef, .undef, .undef, .undef, .undef, .undef, .undef, .undef, .undef, .undef, .undef, .undef, .undef, .undef, .undef, .undef, .undef, .undef, .undef, .undef, .undef, .undef, .undef, .undef, .undef, .undef, .undef, .undef, .undef, .undef, .undef, .undef, .undef, .undef, .undef, .undef, .undef, .undef, .undef, .undef, .undef, .undef, .undef, .undef, .undef, .undef, .undef, .undef, .undef, .undef, .undef, .undef, .undef, .undef, .undef, .undef, .undef, .undef, .undef, .undef, .undef, .undef, .undef, .undef, .undef, .undef, .undef, .undef, .undef, .undef, .undef, .undef], h⟩
abbrev s_law01_ShaStays_K2 (t3 t6 t8 t9 t11 t12 t13 : AV) (h : Heap) : St := ⟨[.undef, .undef, .undef, t3, .undef, .undef, t6, .undef, t8, t9, .undef, t11, t12, t13, .undef, .undef, .undef, .undef, .undef, .undef, .undef, .undef, .undef, .undef, .undef, .undef, .undef, .undef, .undef, .undef, .undef, .undef, .undef, .undef, .undef, .undef, .undef, .undef, .undef, .undef, .undef, .undef, .undef, .undef, .undef, .undef, .undef, .undef, .undef, .undef, .undef, .undef, .undef, .undef, .undef, .undef, .undef, .undef, .undef, .undef, .undef, .undef, .undef, .undef, .undef, .undef, .undef, .undef, .undef, .undef, .undef, .undef, .undef, .undef, .undef, .undef, .undef, .undef, .undef, .undef, .undef, .undef, .undef, .undef, .undef, .undef, .undef, .undef, .undef, .undef, .undef], h⟩
def i_law01_ShaStays_b2 : IR :=
  (.seq
   (.seq
    (.reg [] [
      ⟨(some 65), .mv (.t 13), none, []⟩,
      ⟨(some 66), .bin .plain .lss (.t 65) (.k (.int .i64 64)), none, []⟩])
    (.cond (.t 66)
     .skip
     (.exit 4 i_law01_ShaStays_j4)))
   (.seq
    (.block 5 i_law01_ShaStays_j5
     (.seq
      (.reg [] [
        ⟨(some 69), .cn (.t 9), none, []⟩,
        ⟨(some 70), .mv (.t 13), none, []⟩,
        ⟨(some 71), .ia 1 (.t 69) (.t 70), none, []⟩,
        ⟨(some 72), .load false 1 (.t 71), none, []⟩,
        ⟨(some 73), .mv (.t 13), none, []⟩,
        ⟨(some 74), .iap 64 1 (.t 3) (.t 73), none, []⟩,
        ⟨(some 75), .load false 1 (.t 74), none, []⟩,
        ⟨(some 76), .bin .plain .neq (.t 72) (.t 75), none, []⟩])
      (.cond (.t 76)
       (.seq
        (.reg [] [
          ⟨(some 4), .mv (.k (.bool false)), none, []⟩])
        (.ret i_law01_ShaStays_r))
       .skip)))
    (.reg [] [
      ⟨(some 67), .mv (.t 13), none, []⟩,
      ⟨(some 68), .bin .plain .add (.t 67) (.k (.int .i64 1)), none, []⟩,
      ⟨(some 13), .mv (.t 68), none, []⟩])))

abbrev s_law01_ShaStays_J4 (t6 t8 t11 t12 : AV) (h : Heap) : St := ⟨[.undef, .undef, .undef, .undef, .undef, .undef, t6, .undef, t8, .undef, .undef, t11, t12, .undef, .undef, .undef, .undef, .undef, .undef, .undef, .undef, .undef, .undef, .undef, .undef, .undef, .undef, .undef, .undef, .undef, .undef, .undef, .undef, .undef, .undef, .undef, .undef, .undef, .undef, .undef, .undef, .undef, .undef, .undef, .undef, .undef, .undef, .undef, .undef, .undef, .undef, .undef, .undef, .undef, .undef, .undef, .undef, .undef, .undef, .undef, .undef, .undef, .undef, .undef, .undef, .undef, .undef, .undef, .undef, .undef, .undef, .undef, .undef, .undef, .undef, .undef, .undef, .undef, .undef, .undef, .undef, .undef, .undef, .undef, .undef, .undef, .undef, .undef, .undef, .undef, .undef], h⟩
/-- heartwood/heartwoodlaw01.ShaStays -/
def i_law01_ShaStays : Ev.Fn := ⟨2, 91, 5,
  (.seq
   (.reg [] [
     ⟨(some 3), .box 0 64 (.t 1), none, []⟩,
     ⟨(some 4), .mv (.k (.bool false)), none, []⟩])
   (.seq
    (.seq
     (.reg [] [
       ⟨(some 14), .cn (.t 0), none, []⟩,
       ⟨(some 15), .len false (.t 14), none, []⟩,
       ⟨(some 16), .bin .plain .gtr (.t 15) (.k (.int .i64 20000)), none, []⟩])
     (.cond (.t 16)
      (.reg [] [
        ⟨(some 17), .cn (.t 0), none, []⟩,
        ⟨(some 18), .slice 1 (.t 17) none (some (.k (.int .i64 20000))) none, none, []⟩,
        ⟨(some 0), .cn (.t 18), none, []⟩])
      .skip))
    (.seq
     (.reg [] [
       ⟨(some 19), .lit 1 ty_uint8 1 0 [(.int .u8 0)] [], none, []⟩,
       ⟨(some 20), .cn (.t 0), none, []⟩,
       ⟨(some 21), .app 1 ty_uint8 1 1 (.t 19) (.t 20), none, []⟩,
       ⟨(some 5), .mv (.t 21), none, []⟩])
     (.seq
      (.reg [] [
        ⟨(some 22), .cn (.t 5), none, []⟩,
        ⟨(some 23), .bcall n_sha_Sum [(.t 22)] [2], none, []⟩,
        ⟨(some 6), .cn (.t 23), none, [23]⟩])
      (.seq
       (.seq
        (.reg [] [
          ⟨(some 24), .cn (.t 5), none, []⟩,
          ⟨(some 25), .b2s (.t 24), none, []⟩,
          ⟨(some 26), .cn (.t 0), none, []⟩,
          ⟨(some 27), .b2s (.t 26), none, []⟩,
          ⟨(some 28), .bin .plain .neq (.t 25) (.t 27), none, []⟩,
          ⟨(some 29), .mv (.t 28), none, []⟩,
          ⟨(some 30), .cn (.t 6), (some (29, false)), []⟩,
          ⟨(some 31), .len false (.t 30), (some (29, false)), []⟩,
          ⟨(some 32), .bin .plain .neq (.t 31) (.k (.int .i64 32)), (some (29, false)), []⟩,
          ⟨(some 33), .pick (.t 29) (.k (.bool true)) (.t 32), none, []⟩])
        (.cond (.t 33)
         (.seq
          (.reg [] [
            ⟨(some 4), .mv (.k (.bool false)), none, []⟩])
          (.ret i_law01_ShaStays_r))
         .skip))
       (.seq
        (.seq
         (.reg [] [
           ⟨(some 7), .mv (.k (.int .i64 0)), none, []⟩])
         (.block 0 i_law01_ShaStays_j0
          (.loop i_law01_ShaStays_k0 i_law01_ShaStays_b0)))
        (.seq
         (.reg [] [
           ⟨(some 48), .cn (.t 0), none, []⟩,
           ⟨(some 49), .bcall n_sha_Sum [(.t 48)] [3], none, []⟩,
           ⟨(some 8), .cn (.t 49), none, [49]⟩])
         (.seq
          (.reg [] [
            ⟨(some 9), .mv (.k (.slice none 0 0)), none, []⟩])
          (.seq
           (.seq
            (.reg [] [
              ⟨(some 10), .mv (.k (.int .i64 0)), none, []⟩])
            (.block 2 i_law01_ShaStays_j2
             (.loop i_law01_ShaStays_k1 i_law01_ShaStays_b1)))
           (.seq
            (.reg [] [
              ⟨(some 61), .cn (.t 9), none, []⟩,
              ⟨(some 62), .qcall n_sha_Words [(.t 61)] [], none, [61]⟩,
              ⟨(some 60), .mv (.t 62), none, []⟩,
              ⟨(some 63), .ext 0 (.t 60), none, []⟩,
              ⟨(some 64), .ext 1 (.t 60), none, []⟩,
              ⟨(some 11), .cn (.t 63), none, []⟩,
              ⟨(some 12), .mv (.t 64), none, []⟩])
            (.seq
             (.seq
              (.reg [] [
                ⟨(some 13), .mv (.k (.int .i64 0)), none, []⟩])
              (.block 4 i_law01_ShaStays_j4
               (.loop i_law01_ShaStays_k2 i_law01_ShaStays_b2)))
             (.seq
              (.reg [] [
                ⟨(some 77), .cn (.t 8), none, []⟩,
                ⟨(some 78), .b2s (.t 77), none, []⟩,
                ⟨(some 79), .cn (.t 6), none, []⟩,
                ⟨(some 80), .b2s (.t 79), none, []⟩,
                ⟨(some 81), .bin .plain .eql (.t 78) (.t 80), none, []⟩,
                ⟨(some 82), .mv (.t 81), none, []⟩,
                ⟨(some 83), .mv (.t 12), (some (82, true)), []⟩,
                ⟨(some 84), .bin (.iface ty_api_Code true) .eql (.t 83) (.k .nilIface), (some (82, true)), []⟩,
                ⟨(some 85), .pick (.t 82) (.t 84) (.k (.bool false)), none, []⟩,
                ⟨(some 86), .mv (.t 85), none, []⟩,
                ⟨(some 87), .cn (.t 11), (some (86, true)), []⟩,
                ⟨(some 88), .len false (.t 87), (some (86, true)), []⟩,
                ⟨(some 89), .bin .plain .eql (.t 88) (.k (.int .i64 64)), (some (86, true)), []⟩,
                ⟨(some 90), .pick (.t 86) (.t 89) (.k (.bool false)), none, []⟩,
                ⟨(some 4), .mv (.t 90), none, []⟩])
              (.ret i_law01_ShaStays_r))))))))))))),
  [.tmp 4], [], false, []⟩

def i_sha_Sum_r : List Bool := [false, false, true, false, false, false, false, false, false, false, false, false, false, false, false, false, false, false, false, false, false, false, false, false, false, false, false, false, false, false, false, false, false, false, false, false, false, false, false, false, false, false, false, false, false, false, false, false, false, false, false, false, false, false, false, false, false, false, false, false, false, false, false, false, false, false, false, false, false, false, false, false, false, false, false, false]
def i_sha_Sum_j3 : List Bool := [false, false, false, false, false, false, false, true, false, true, false, false, false, false, false, false, false, false, false, false, false, false, false, false, false, false, false, false, false, false, false, false, false, false, false, false, false, true, true, false, false, false, false, false, false, false, false, false, false, false, false, false, false, false, false, false, false, false, false, false, false, false, false, false, false, false, false, false, false, false, false, false, false, false, false, false]
def i_sha_Sum_k1 : List Bool := [false, false, false, false, false, false, false, true, false, true, false, false, false, false, false, false, false, false, false, false, false, false, false, false, false, false, false, false, false, false, false, false, false, false, false, false, false, true, true, false, false, false, false, false, false, false, false, false, false, false, false, false, false, false, false, false, false, false, false, false, false, false, false, false, false, false, false, false, false, false, false, false, false, false, false, false]
def i_sha_Sum_j2 : List Bool := [false, false, false, false, false, false, false, true, false, false, false, false, false, false, false, false, false, false, false, false, false, false, false, false, false, false, false, false, false, false, false, false, false, false, false, false, false, true, true, false, false, false, false, false, false, false, false, false, false, false, false, false, false, false, false, false, false, false, false, false, false, false, false, false, false, false, false, false, false, false, false, false, false, false, false, false]
def i_sha_Sum_j1 : List Bool := [false, false, false, false, false, false, false, true, false, false, false, false, false, false, false, false, false, false, false, false, false, false, false, false, false, false, false, false, false, false, false, false, false, false, false, false, false, true, true, false, false, false, false, false, false, false, false, false, false, false, false, false, false, false, false, false, false, false, false, false, false, false, false, false, false, false, false, false, false, false, false, false, false, false, false, false]
def i_sha_Sum_k0 : List Bool := [false, false, false, false, false, false, false, true, false, false, false, false, false, false, false, false, false, false, false, false, false, false, false, false, false, false, false, false, false, false, false, false, false, false, false, false, false, true, true, false, false, false, false, false, false, false, false, false, false, false, false, false, false, false, false, false, false, false, false, false, false, false, false, false, false, false, false, false, false, false, false, false, false, false, false, false]
def i_sha_Sum_j0 : List Bool := [false, false, false, false, false, false, false, true, false, false, false, false, false, false, false, false, false, false, false, false, false, false, false, false, false, false, false, false, false, false, false, false, false, false, false, false, false, false, false, false, false, false, false, false, false, false, false, false, false, false, false, false, false, false, false, false, false, false, false, false, false, false, false, false, false, false, false, false, false, false, false, false, false, false, false, false]
def i_sha_Sum_j5 : List Bool := [false, false, false, false, false, false, false, false, false, false, true, false, false, false, false, false, false, false, false, false, false, false, false, false, false, false, false, false, false, false, false, false, false, false, false, false, false, false, false, false, false, false, false, false, false, false, false, false, false, false, false, false, false, false, false, false, true, true, false, false, false, false, false, false, false, false, false, false, false, false, false, false, false, false, false, false]
def i_sha_Sum_k2 : List Bool := [false, false, false, false, false, false, false, false, false, false, true, false, false, false, false, false, false, false, false, false, false, false, false, false, false, false, false, false, false, false, false, false, false, false, false, false, false, false, false, false, false, false, false, false, false, false, false, false, false, false, false, false, false, false, false, false, true, true, false, false, false, false, false, false, false, false, false, false, false, false, false, false, false, false, false, false]
def i_sha_Sum_j4 : List Bool := [false, false, false, false, false, false, false, false, false, false, true, false, false, false, false, false, false, false, false, false, false, false, false, false, false, false, false, false, false, false, false, false, false, false, false, false, false, false, false, false, false, false, false, false, false, false, false, false, false, false, false, false, false, false, false, false, false, false, false, false, false, false, false, false, false, false, false, false, false, false, false, false, false, false, false, false]
abbrev s_sha_Sum_R (t2 : AV) (h : Heap) : St := ⟨[.undef, .undef, t2, .undef, .undef, .undef, .undef, .undef, .undef, .undef, .undef, .undef, .undef, .undef, .undef, .undef, .undef, .undef, .undef, .undef, .undef, .undef, .undef, .undef, .undef, .undef, .undef, .undef, .undef, .undef, .undef, .undef, .undef, .undef, .undef, .undef, .undef, .undef, .undef, .undef, .undef, .undef, .undef, .undef, .undef, .undef, .undef, .undef, .undef, .undef, .undef, .undef, .undef, .undef, .undef, .undef, .undef, .undef, .undef, .undef, .undef, .undef, .undef, .undef, .undef, .undef, .undef, .undef, .undef, .undef, .undef, .undef, .undef, .undef, .undef, .undef], h⟩
abbrev s_sha_Sum_K1 (t7 t9 t37 t38 : AV) (h : Heap) : St := ⟨[.undef, .undef, .undef, .undef, .undef, .undef, .undef, t7, .undef, t9, .undef, .undef, .undef, .undef, .undef, .undef, .undef, .undef, .undef, .undef, .undef, .undef, .undef, .undef, .undef, .undef, .undef, .undef, .undef, .undef, .undef, .undef, .undef, .undef, .undef, .undef, .undef, t37, t38, .undef, .undef, .undef, .undef, .undef, .undef, .undef, .undef, .undef, .undef, .undef, .undef, .undef, .undef, .undef, .undef, .undef, .undef, .undef, .undef, .undef, .undef, .undef, .undef, .undef, .undef, .undef, .undef, .undef, .undef, .undef, .undef, .undef, .undef, .undef, .undef, .undef], h⟩
def i_sha_Sum_b1 : IR :=
  (.seq
   (.seq
    (.reg [] [
      ⟨(some 41), .cn (.t 9), none, []⟩,
      ⟨(some 42), .len false (.t 41), none, []⟩,
      ⟨(some 43), .bin .plain .gtr (.t 42) (.k (.int .i64 0)), none, []⟩])
    (.cond (.t 43)
     .skip
     (.exit 2 i_sha_Sum_j2)))
   (.seq
    (.block 3 i_sha_Sum_j3
     (.seq
      (.reg [] [
        ⟨(some 47), .load true 8 (.t 7), none, []⟩,
        ⟨(some 48), .cn (.t 9), none, []⟩,
        ⟨(some 49), .slice 1 (.t 48) none (some (.k (.int .i64 64))) none, none, []⟩,
        ⟨(some 50), .qcall n_sha_Step [(.t 47), (.t 49)] [], none, []⟩,
        ⟨(some 46), .mv (.t 50), none, []⟩,
        ⟨(some 51), .ext 0 (.t 46), none, []⟩,
        ⟨(some 52), .ext 1 (.t 46), none, []⟩,
        ⟨none, .store 8 (.t 7) (.t 51), none, []⟩,
        ⟨(some 4), .mv (.t 52), none, []⟩])
      (.seq
       (.reg [] [
         ⟨(some 53), .mv (.t 4), none, []⟩,
         ⟨(some 54), .bin (.iface ty_api_Code true) .neq (.t 53) (.k .nilIface), none, []⟩])
       (.cond (.t 54)
        (.seq
         (.reg [] [
           ⟨(some 2), .mv (.k (.slice none 0 0)), none, []⟩])
         (.ret i_sha_Sum_r))
        .skip))))
    (.reg [] [
      ⟨(some 44), .cn (.t 9), none, []⟩,
      ⟨(some 45), .slice 1 (.t 44) (some (.k (.int .i64 64))) none none, none, []⟩,
      ⟨(some 9), .cn (.t 45), none, []⟩])))

abbrev s_sha_Sum_J2 (t7 t37 t38 : AV) (h : Heap) : St := ⟨[.undef, .undef, .undef, .undef, .undef, .undef, .undef, t7, .undef, .undef, .undef, .undef, .undef, .undef, .undef, .undef, .undef, .undef, .undef, .undef, .undef, .undef, .undef, .undef, .undef, .undef, .undef, .undef, .undef, .undef, .undef, .undef, .undef, .undef, .undef, .undef, .undef, t37, t38, .undef, .undef, .undef, .undef, .undef, .undef, .undef, .undef, .undef, .undef, .undef, .undef, .undef, .undef, .undef, .undef, .undef, .undef, .undef, .undef, .undef, .undef, .undef, .undef, .undef, .undef, .undef, .undef, .undef, .undef, .undef, .undef, .undef, .undef, .undef, .undef, .undef], h⟩
abbrev s_sha_Sum_J1 (t7 t37 t38 : AV) (h : Heap) : St := ⟨[.undef, .undef, .undef, .undef, .undef, .undef, .undef, t7, .undef, .undef, .undef, .undef, .undef, .undef, .undef, .undef, .undef, .undef, .undef, .undef, .undef, .undef, .undef, .undef, .undef, .undef, .undef, .undef, .undef, .undef, .undef, .undef, .undef, .undef, .undef, .undef, .undef, t37, t38, .undef, .undef, .undef, .undef, .undef, .undef, .undef, .undef, .undef, .undef, .undef, .undef, .undef, .undef, .undef, .undef, .undef, .undef, .undef, .undef, .undef, .undef, .undef, .undef, .undef, .undef, .undef, .undef, .undef, .undef, .undef, .undef, .undef, .undef, .undef, .undef, .undef], h⟩
abbrev s_sha_Sum_K0 (t7 t37 t38 : AV) (h : Heap) : St := ⟨[.undef, .undef, .undef, .undef, .undef, .undef, .undef, t7, .undef, .undef, .undef, .undef, .undef, .undef, .undef, .undef, .undef, .undef, .undef, .undef, .undef, .undef, .undef, .undef, .undef, .undef, .undef, .undef, .undef, .undef, .undef, .undef, .undef, .undef, .undef, .undef, .undef, t37, t38, .undef, .undef, .undef, .undef, .undef, .undef, .undef, .undef, .undef, .undef, .undef, .undef, .undef, .undef, .undef, .undef, .undef, .undef, .undef, .undef, .undef, .undef, .undef, .undef, .undef, .undef, .undef, .undef, .undef, .undef, .undef, .undef, .undef, .undef, .undef, .undef, .undef], h⟩
def i_sha_Sum_b0 : IR :=
  (.seq
   (.reg [] [
     ⟨(some 39), .bin .plain .lss (.t 38) (.k (.int .i64 2)), none, []⟩])
   (.seq
    (.cond (.t 39)
     .skip
     (.exit 0 i_sha_Sum_j0))
    (.seq
     (.block 1 i_sha_Sum_j1
      (.seq
       (.reg [] [
         ⟨(some 40), .ix 2 1 false (.t 37) (.t 38), none, []⟩,
         ⟨(some 9), .cn (.t 40), none, []⟩])
       (.block 2 i_sha_Sum_j2
        (.loop i_sha_Sum_k1 i_sha_Sum_b1))))
     (.reg [] [
       ⟨(some 55), .bin .plain .add (.t 38) (.k (.int .i64 1)), none, []⟩,
       ⟨(some 38), .mv (.t 55), none, []⟩]))))

abbrev s_sha_Sum_J0 (t7 : AV) (h : Heap) : St := ⟨[.undef, .undef, .undef, .undef, .undef, .undef, .undef, t7, .undef, .undef, .undef, .undef, .undef, .undef, .undef, .undef, .undef, .undef, .undef, .undef, .undef, .undef, .undef, .undef, .undef, .undef, .undef, .undef, .undef, .undef, .undef, .undef, .undef, .undef, .undef, .undef, .undef, .undef, .undef, .undef, .undef, .undef, .undef, .undef, .undef, .undef, .undef, .undef, .undef, .undef, .undef, .undef, .undef, .undef, .undef, .undef, .undef, .undef, .undef, .undef, .undef, .undef, .undef, .undef, .undef, .undef, .undef, .undef, .undef, .undef, .undef, .undef, .undef, .undef, .undef, .undef], h⟩
abbrev s_sha_Sum_K2 (t10 t56 t57 : AV) (h : Heap) : St := ⟨[.undef, .undef, .undef, .undef, .undef, .undef, .undef, .undef, .undef, .undef, t10, .undef, .undef, .undef, .undef, .undef, .undef, .undef, .undef, .undef, .undef, .undef, .undef, .undef, .undef, .undef, .undef, .undef, .undef, .undef, .undef, .undef, .undef, .undef, .undef, .undef, .undef, .undef, .undef, .undef, .undef, .undef, .undef, .undef, .undef, .undef, .undef, .undef, .undef, .undef, .undef, .undef, .undef, .undef, .undef, .undef, t56, t57, .undef, .undef, .undef, .undef, .undef, .undef, .undef, .undef, .undef, .undef, .undef, .undef, .undef, .undef, .undef, .undef, .undef, .undef], h⟩
def i_sha_Sum_b2 : IR :=
  (.seq
   (.reg [] [
     ⟨(some 58), .bin .plain .lss (.t 57) (.k (.int .i64 8)), none, []⟩])
   (.seq
    (.cond (.t 58)
     .skip
     (.exit 4 i_sha_Sum_j4))
    (.seq
     (.block 5 i_sha_Sum_j5
      (.seq
       (.reg [] [
         ⟨(some 59), .ix 8 1 false (.t 56) (.t 57), none, []⟩,
         ⟨(some 12), .mv (.t 59), none, []⟩])
       (.reg [] [
         ⟨(some 60), .mv (.t 10), none, []⟩,
         ⟨(some 61), .mv (.t 12), none, []⟩,
         ⟨(some 62), .bin .plain .shr (.t 61) (.k (.int .u64 24)), none, []⟩,
         ⟨(some 63), .conv .u8 (.t 62), none, []⟩,
         ⟨(some 64), .mv (.t 12), none, []⟩,
         ⟨(some 65), .bin .plain .shr (.t 64) (.k (.int .u64 16)), none, []⟩,
         ⟨(some 66), .conv .u8 (.t 65), none, []⟩,
         ⟨(some 67), .mv (.t 12), none, []⟩,
         ⟨(some 68), .bin .plain .shr (.t 67) (.k (.int .u64 8)), none, []⟩,
         ⟨(some 69), .conv .u8 (.t 68), none, []⟩,
         ⟨(some 70), .mv (.t 12), none, []⟩,
         ⟨(some 71), .conv .u8 (.t 70), none, []⟩,
         ⟨(some 72), .litd 1 4 [(.int .u8 0)] [(0, (.t 63)), (1, (.t 66)), (2, (.t 69)), (3, (.t 71))], none, []⟩,
         ⟨(some 73), .app 2 ty_uint8 1 1 (.t 60) (.t 72), none, []⟩,
         ⟨(some 10), .mv (.t 73), none, []⟩])))
     (.reg [] [
       ⟨(some 74), .bin .plain .add (.t 57) (.k (.int .i64 1)), none, []⟩,
       ⟨(some 57), .mv (.t 74), none, []⟩]))))

abbrev s_sha_Sum_J4 (t10 : AV) (h : Heap) : St := ⟨[.undef, .undef, .undef, .undef, .undef, .undef, .undef, .undef, .undef, .undef, t10, .undef, .undef, .undef, .undef, .undef, .undef, .undef, .undef, .undef, .undef, .undef, .undef, .undef, .undef, .undef, .undef, .undef, .undef, .undef, .undef, .undef, .undef, .undef, .undef, .undef, .undef, .undef, .undef, .undef, .undef, .undef, .undef, .undef, .undef, .undef, .undef, .undef, .undef, .undef, .undef, .undef, .undef, .undef, .undef, .undef, .undef, .undef, .undef, .undef, .undef, .undef, .undef, .undef, .undef, .undef, .undef, .undef, .undef, .undef, .undef, .undef, .undef, .undef, .undef, .undef], h⟩
/-- heartwood/sha.Sum -/
def i_sha_Sum : Ev.Fn := ⟨1, 76, 3,
  (.seq
   (.reg [] [
     ⟨(some 2), .mv (.k (.slice none 0 0)), none, []⟩])
   (.seq
    (.reg [] [
      ⟨(some 14), .cn (.t 0), none, []⟩,
      ⟨(some 15), .len false (.t 14), none, []⟩,
      ⟨(some 16), .qcall n_sha_Tail [(.t 15)] [], none, []⟩,
      ⟨(some 13), .mv (.t 16), none, []⟩,
      ⟨(some 17), .ext 0 (.t 13), none, []⟩,
      ⟨(some 18), .ext 1 (.t 13), none, []⟩,
      ⟨(some 3), .cn (.t 17), none, []⟩,
      ⟨(some 4), .mv (.t 18), none, []⟩])
    (.seq
     (.seq
      (.reg [] [
        ⟨(some 19), .mv (.t 4), none, []⟩,
        ⟨(some 20), .bin (.iface ty_api_Code true) .neq (.t 19) (.k .nilIface), none, []⟩])
      (.cond (.t 20)
       (.seq
        (.reg [] [
          ⟨(some 2), .mv (.k (.slice none 0 0)), none, []⟩])
        (.ret i_sha_Sum_r))
       .skip))
     (.seq
      (.reg [] [
        ⟨(some 21), .cn (.t 0), none, []⟩,
        ⟨(some 22), .len false (.t 21), none, []⟩,
        ⟨(some 23), .bin .plain .quo (.t 22) (.k (.int .i64 64)), none, []⟩,
        ⟨(some 24), .bin .plain .mul (.t 23) (.k (.int .i64 64)), none, []⟩,
        ⟨(some 5), .mv (.t 24), none, []⟩])
      (.seq
       (.reg [] [
         ⟨(some 25), .lit 0 ty_uint8 1 0 [(.int .u8 0)] [], none, []⟩,
         ⟨(some 26), .cn (.t 0), none, []⟩,
         ⟨(some 27), .mv (.t 5), none, []⟩,
         ⟨(some 28), .slice 1 (.t 26) (some (.t 27)) none none, none, []⟩,
         ⟨(some 29), .app 0 ty_uint8 1 1 (.t 25) (.t 28), none, []⟩,
         ⟨(some 30), .cn (.t 3), none, []⟩,
         ⟨(some 31), .app 0 ty_uint8 1 1 (.t 29) (.t 30), none, []⟩,
         ⟨(some 6), .cn (.t 31), none, [31]⟩])
       (.seq
        (.reg [] [
          ⟨(some 32), .load true 8 (.g 0), none, []⟩,
          ⟨(some 7), .new 1 [(.int .u32 0), (.int .u32 0), (.int .u32 0), (.int .u32 0), (.int .u32 0), (.int .u32 0), (.int .u32 0), (.int .u32 0)], none, []⟩,
          ⟨none, .store 8 (.t 7) (.t 32), none, []⟩])
        (.seq
         (.seq
          (.reg [] [
            ⟨(some 33), .cn (.t 0), none, []⟩,
            ⟨(some 34), .mv (.t 5), none, []⟩,
            ⟨(some 35), .slice 1 (.t 33) none (some (.t 34)) none, none, []⟩,
            ⟨(some 36), .cn (.t 6), none, []⟩,
            ⟨(some 37), .build [(.slice none 0 0), (.slice none 0 0)] [(0, 1, (.t 35)), (1, 1, (.t 36))], none, []⟩,
            ⟨(some 38), .mv (.k (.int .i64 0)), none, []⟩])
          (.block 0 i_sha_Sum_j0
           (.loop i_sha_Sum_k0 i_sha_Sum_b0)))
         (.seq
          (.reg [] [
            ⟨(some 10), .mv (.k (.slice none 0 0)), none, []⟩])
          (.seq
           (.seq
            (.reg [] [
              ⟨(some 56), .load true 8 (.t 7), none, []⟩,
              ⟨(some 57), .mv (.k (.int .i64 0)), none, []⟩])
            (.block 4 i_sha_Sum_j4
             (.loop i_sha_Sum_k2 i_sha_Sum_b2)))
           (.seq
            (.reg [] [
              ⟨(some 75), .mv (.t 10), none, []⟩,
              ⟨(some 2), .mv (.t 75), none, []⟩])
            (.ret i_sha_Sum_r))))))))))),
  [.tmp 2], [true], false, []⟩

def i_sha_Tail_r : List Bool := [false, false, true, true, false, false, false, false, false, false, false, false, false, false, false, false, false, false, false, false, false, false, false, false, false, false, false, false, false, false, false, false, false, false, false, false, false]
def i_sha_Tail_j1 : List Bool := [true, false, false, false, true, false, false, false, false, false, false, false, false, false, false, false, false, false, false, false, false, false, false, false, false, false, false, false, false, false, false, false, false, false, false, false, false]
def i_sha_Tail_k0 : List Bool := [true, false, false, false, true, false, false, false, false, false, false, false, false, false, false, false, false, false, false, false, false, false, false, false, false, false, false, false, false, false, false, false, false, false, false, false, false]
def i_sha_Tail_j0 : List Bool := [true, false, false, false, true, false, false, false, false, false, false, false, false, false, false, false, false, false, false, false, false, false, false, false, false, false, false, false, false, false, false, false, false, false, false, false, false]
def i_sha_Tail_j3 : List Bool := [true, false, false, false, true, true, false, false, false, false, false, false, false, false, false, false, false, false, false, false, false, false, false, false, false, false, false, false, false, false, false, false, false, false, false, false, false]
def i_sha_Tail_k1 : List Bool := [true, false, false, false, true, true, false, false, false, false, false, false, false, false, false, false, false, false, false, false, false, false, false, false, false, false, false, false, false, false, false, false, false, false, false, false, false]
def i_sha_Tail_j2 : List Bool := [false, false, false, false, true, false, false, false, false, false, false, false, false, false, false, false, false, false, false, false, false, false, false, false, false, false, false, false, false, false, false, false, false, false, false, false, false]
abbrev s_sha_Tail_R (t2 t3 : AV) (h : Heap) : St := ⟨[.undef, .undef, t2, t3, .undef, .undef, .undef, .undef, .undef, .undef, .undef, .undef, .undef, .undef, .undef, .undef, .undef, .undef, .undef, .undef, .undef, .undef, .undef, .undef, .undef, .undef, .undef, .undef, .undef, .undef, .undef, .undef, .undef, .undef, .undef, .undef, .undef], h⟩
abbrev s_sha_Tail_K0 (t0 t4 : AV) (h : Heap) : St := ⟨[t0, .undef, .undef, .undef, t4, .undef, .undef, .undef, .undef, .undef, .undef, .undef, .undef, .undef, .undef, .undef, .undef, .undef, .undef, .undef, .undef, .undef, .undef, .undef, .undef, .undef, .undef, .undef, .undef, .undef, .undef, .undef, .undef, .undef, .undef, .undef, .undef], h⟩
def i_sha_Tail_b0 : IR :=
  (.seq
   (.seq
    (.reg [] [
      ⟨(some 14), .mv (.t 0), none, []⟩,
      ⟨(some 15), .cn (.t 4), none, []⟩,
      ⟨(some 16), .len false (.t 15), none, []⟩,
      ⟨(some 17), .bin .plain .add (.t 14) (.t 16), none, []⟩,
      ⟨(some 18), .bin .plain .rem (.t 17) (.k (.int .i64 64)), none, []⟩,
      ⟨(some 19), .bin .plain .neq (.t 18) (.k (.int .i64 56)), none, []⟩])
    (.cond (.t 19)
     .skip
     (.exit 0 i_sha_Tail_j0)))
   (.block 1 i_sha_Tail_j1
    (.reg [] [
      ⟨(some 20), .mv (.t 4), none, []⟩,
      ⟨(some 21), .litd 1 1 [(.int .u8 0)] [(0, (.k (.int .u8 0)))], none, []⟩,
      ⟨(some 22), .app 0 ty_uint8 1 1 (.t 20) (.t 21), none, []⟩,
      ⟨(some 4), .mv (.t 22), none, []⟩])))

abbrev s_sha_Tail_J0 (t0 t4 : AV) (h : Heap) : St := ⟨[t0, .undef, .undef, .undef, t4, .undef, .undef, .undef, .undef, .undef, .undef, .undef, .undef, .undef, .undef, .undef, .undef, .undef, .undef, .undef, .undef, .undef, .undef, .undef, .undef, .undef, .undef, .undef, .undef, .undef, .undef, .undef, .undef, .undef, .undef, .undef, .undef], h⟩
abbrev s_sha_Tail_K1 (t0 t4 t5 : AV) (h : Heap) : St := ⟨[t0, .undef, .undef, .undef, t4, t5, .undef, .undef, .undef, .undef, .undef, .undef, .undef, .undef, .undef, .undef, .undef, .undef, .undef, .undef, .undef, .undef, .undef, .undef, .undef, .undef, .undef, .undef, .undef, .undef, .undef, .undef, .undef, .undef, .undef, .undef, .undef], h⟩
def i_sha_Tail_b1 : IR :=
  (.seq
   (.seq
    (.reg [] [
      ⟨(some 23), .mv (.t 5), none, []⟩,
      ⟨(some 24), .bin .plain .geq (.t 23) (.k (.int .i64 0)), none, []⟩])
    (.cond (.t 24)
     .skip
     (.exit 2 i_sha_Tail_j2)))
   (.seq
    (.block 3 i_sha_Tail_j3
     (.reg [] [
       ⟨(some 27), .mv (.t 4), none, []⟩,
       ⟨(some 28), .mv (.t 0), none, []⟩,
       ⟨(some 29), .conv .u64 (.t 28), none, []⟩,
       ⟨(some 30), .bin .plain .mul (.k (.int .u64 8)) (.t 29), none, []⟩,
       ⟨(some 31), .mv (.t 5), none, []⟩,
       ⟨(some 32), .bin .plain .shr (.t 30) (.t 31), none, []⟩,
       ⟨(some 33), .conv .u8 (.t 32), none, []⟩,
       ⟨(some 34), .litd 1 1 [(.int .u8 0)] [(0, (.t 33))], none, []⟩,
       ⟨(some 35), .app 0 ty_uint8 1 1 (.t 27) (.t 34), none, []⟩,
       ⟨(some 4), .mv (.t 35), none, []⟩]))
    (.reg [] [
      ⟨(some 25), .mv (.t 5), none, []⟩,
      ⟨(some 26), .bin .plain .sub (.t 25) (.k (.int .i64 8)), none, []⟩,
      ⟨(some 5), .mv (.t 26), none, []⟩])))

abbrev s_sha_Tail_J2 (t4 : AV) (h : Heap) : St := ⟨[.undef, .undef, .undef, .undef, t4, .undef, .undef, .undef, .undef, .undef, .undef, .undef, .undef, .undef, .undef, .undef, .undef, .undef, .undef, .undef, .undef, .undef, .undef, .undef, .undef, .undef, .undef, .undef, .undef, .undef, .undef, .undef, .undef, .undef, .undef, .undef, .undef], h⟩
/-- heartwood/sha.Tail -/
def i_sha_Tail : Ev.Fn := ⟨1, 37, 1,
  (.seq
   (.reg [] [
     ⟨(some 2), .cn (.k (.slice none 0 0)), none, []⟩,
     ⟨(some 3), .mv (.k .nilIface), none, []⟩])
   (.seq
    (.seq
     (.reg [] [
       ⟨(some 6), .mv (.t 0), none, []⟩,
       ⟨(some 7), .bin .plain .lss (.t 6) (.k (.int .i64 0)), none, []⟩,
       ⟨(some 8), .mv (.t 7), none, []⟩,
       ⟨(some 9), .mv (.t 0), (some (8, false)), []⟩,
       ⟨(some 10), .bin .plain .gtr (.t 9) (.k (.int .i64 1125899906842624)), (some (8, false)), []⟩,
       ⟨(some 11), .pick (.t 8) (.k (.bool true)) (.t 10), none, []⟩])
     (.cond (.t 11)
      (.seq
       (.reg [] [
         ⟨(some 12), .mki ty_api_Code (.k (.int .i64 1)), none, []⟩,
         ⟨(some 2), .cn (.k (.slice none 0 0)), none, []⟩,
         ⟨(some 3), .mv (.t 12), none, []⟩])
       (.ret i_sha_Tail_r))
      .skip))
    (.seq
     (.reg [] [
       ⟨(some 13), .lit 0 ty_uint8 1 1 [(.int .u8 0)] [(0, (.k (.int .u8 128)))], none, []⟩,
       ⟨(some 4), .mv (.t 13), none, []⟩])
     (.seq
      (.block 0 i_sha_Tail_j0
       (.loop i_sha_Tail_k0 i_sha_Tail_b0))
      (.seq
       (.seq
        (.reg [] [
          ⟨(some 5), .mv (.k (.int .i64 56)), none, []⟩])
        (.block 2 i_sha_Tail_j2
         (.loop i_sha_Tail_k1 i_sha_Tail_b1)))
       (.seq
        (.reg [] [
          ⟨(some 36), .cn (.t 4), none, [4]⟩,
          ⟨(some 2), .cn (.t 36), none, [36]⟩,
          ⟨(some 3), .mv (.k .nilIface), none, []⟩])
        (.ret i_sha_Tail_r))))))),
  [.tmp 2, .tmp 3], [], false, []⟩

def i_sha_Step_r : List Bool := [false, false, false, false, true, true, false, false, false, false, false, false, false, false, false, false, false, false, false, false, false, false, false, false, false, false, false, false, false, false, false, false, false, false, false, false, false, false, false, false, false, false, false, false, false, false, false, false, false]
def i_sha_Step_j1 : List Bool := [false, false, true, false, true, false, false, false, true, false, false, false, false, false, false, false, false, false, false, false, false, false, true, true, true, false, false, false, false, false, false, false, false, false, false, false, false, false, false, false, false, false, false, false, false, false, false, false, false]
def i_sha_Step_k0 : List Bool := [false, false, true, false, true, false, false, false, true, false, false, false, false, false, false, false, false, false, false, false, false, false, true, true, true, false, false, false, false, false, false, false, false, false, false, false, false, false, false, false, false, false, false, false, false, false, false, false, false]
def i_sha_Step_j0 : List Bool := [false, false, true, false, true, false, false, false, true, false, false, false, false, false, false, false, false, false, false, false, false, false, false, false, false, false, false, false, false, false, false, false, false, false, false, false, false, false, false, false, false, false, false, false, false, false, false, false, false]
def i_sha_Step_j3 : List Bool := [false, false, true, false, true, false, false, false, true, false, false, false, false, false, false, false, false, false, false, false, false, false, false, false, false, false, false, false, false, false, false, false, false, false, false, false, true, false, false, false, false, false, false, false, false, false, false, false, false]
def i_sha_Step_k1 : List Bool := [false, false, true, false, true, false, false, false, true, false, false, false, false, false, false, false, false, false, false, false, false, false, false, false, false, false, false, false, false, false, false, false, false, false, false, false, true, false, false, false, false, false, false, false, false, false, false, false, false]
def i_sha_Step_j2 : List Bool := [false, false, true, false, true, false, false, false, false, false, false, false, false, false, false, false, false, false, false, false, false, false, false, false, false, false, false, false, false, false, false, false, false, false, false, false, false, false, false, false, false, false, false, false, false, false, false, false, false]
abbrev s_sha_Step_R (t4 t5 : AV) (h : Heap) : St := ⟨[.undef, .undef, .undef, .undef, t4, t5, .undef, .undef, .undef, .undef, .undef, .undef, .undef, .undef, .undef, .undef, .undef, .undef, .undef, .undef, .undef, .undef, .undef, .undef, .undef, .undef, .undef, .undef, .undef, .undef, .undef, .undef, .undef, .undef, .undef, .undef, .undef, .undef, .undef, .undef, .undef, .undef, .undef, .undef, .undef, .undef, .undef, .undef, .undef], h⟩
abbrev s_sha_Step_K0 (t2 t4 t8 t22 t23 t24 : AV) (h : Heap) : St := ⟨[.undef, .undef, t2, .undef, t4, .undef, .undef, .undef, t8, .undef, .undef, .undef, .undef, .undef, .undef, .undef, .undef, .undef, .undef, .undef, .undef, .undef, t22, t23, t24, .undef, .undef, .undef, .undef, .undef, .undef, .undef, .undef, .undef, .undef, .undef, .undef, .undef, .undef, .undef, .undef, .undef, .undef, .undef, .undef, .undef, .undef, .undef, .undef], h⟩
def i_sha_Step_b0 : IR :=
  (.seq
   (.reg [] [
     ⟨(some 25), .bin .plain .lss (.t 24) (.t 23), none, []⟩])
   (.seq
    (.cond (.t 25)
     .skip
     (.exit 0 i_sha_Step_j0))
    (.seq
     (.block 1 i_sha_Step_j1
      (.seq
       (.reg [] [
         ⟨(some 26), .mv (.t 24), none, []⟩,
         ⟨(some 27), .ia 1 (.t 22) (.t 24), none, []⟩,
         ⟨(some 28), .load false 1 (.t 27), none, []⟩,
         ⟨(some 9), .mv (.t 26), none, []⟩,
         ⟨(some 10), .mv (.t 28), none, []⟩])
       (.reg [] [
         ⟨(some 29), .load true 8 (.t 8), none, []⟩,
         ⟨(some 30), .mv (.t 9), none, []⟩,
         ⟨(some 31), .iap 64 1 (.g 1) (.t 30), none, []⟩,
         ⟨(some 32), .load false 1 (.t 31), none, []⟩,
         ⟨(some 33), .mv (.t 10), none, []⟩,
         ⟨(some 34), .qcall n_sha_Round [(.t 29), (.t 32), (.t 33)] [], none, []⟩,
         ⟨none, .store 8 (.t 8) (.t 34), none, []⟩])))
     (.reg [] [
       ⟨(some 35), .bin .plain .add (.t 24) (.k (.int .i64 1)), none, []⟩,
       ⟨(some 24), .mv (.t 35), none, []⟩]))))

abbrev s_sha_Step_J0 (t2 t4 t8 : AV) (h : Heap) : St := ⟨[.undef, .undef, t2, .undef, t4, .undef, .undef, .undef, t8, .undef, .undef, .undef, .undef, .undef, .undef, .undef, .undef, .undef, .undef, .undef, .undef, .undef, .undef, .undef, .undef, .undef, .undef, .undef, .undef, .undef, .undef, .undef, .undef, .undef, .undef, .undef, .undef, .undef, .undef, .undef, .undef, .undef, .undef, .undef, .undef, .undef, .undef, .undef, .undef], h⟩
abbrev s_sha_Step_K1 (t2 t4 t8 t36 : AV) (h : Heap) : St := ⟨[.undef, .undef, t2, .undef, t4, .undef, .undef, .undef, t8, .undef, .undef, .undef, .undef, .undef, .undef, .undef, .undef, .undef, .undef, .undef, .undef, .undef, .undef, .undef, .undef, .undef, .undef, .undef, .undef, .undef, .undef, .undef, .undef, .undef, .undef, .undef, t36, .undef, .undef, .undef, .undef, .undef, .undef, .undef, .undef, .undef, .undef, .undef, .undef], h⟩
def i_sha_Step_b1 : IR :=
  (.seq
   (.reg [] [
     ⟨(some 37), .bin .plain .lss (.t 36) (.k (.int .i64 8)), none, []⟩])
   (.seq
    (.cond (.t 37)
     .skip
     (.exit 2 i_sha_Step_j2))
    (.seq
     (.block 3 i_sha_Step_j3
      (.seq
       (.reg [] [
         ⟨(some 38), .mv (.t 36), none, []⟩,
         ⟨(some 11), .mv (.t 38), none, []⟩])
       (.reg [] [
         ⟨(some 39), .mv (.t 11), none, []⟩,
         ⟨(some 40), .iap 8 1 (.t 2) (.t 39), none, []⟩,
         ⟨(some 41), .load false 1 (.t 40), none, []⟩,
         ⟨(some 42), .mv (.t 11), none, []⟩,
         ⟨(some 43), .iap 8 1 (.t 8) (.t 42), none, []⟩,
         ⟨(some 44), .load false 1 (.t 43), none, []⟩,
         ⟨(some 45), .bin .plain .add (.t 41) (.t 44), none, []⟩,
         ⟨(some 46), .iap 8 1 (.t 2) (.t 39), none, []⟩,
         ⟨none, .store 1 (.t 46) (.t 45), none, []⟩])))
     (.reg [] [
       ⟨(some 47), .bin .plain .add (.t 36) (.k (.int .i64 1)), none, []⟩,
       ⟨(some 36), .mv (.t 47), none, []⟩]))))

abbrev s_sha_Step_J2 (t2 t4 : AV) (h : Heap) : St := ⟨[.undef, .undef, t2, .undef, t4, .undef, .undef, .undef, .undef, .undef, .undef, .undef, .undef, .undef, .undef, .undef, .undef, .undef, .undef, .undef, .undef, .undef, .undef, .undef, .undef, .undef, .undef, .undef, .undef, .undef, .undef, .undef, .undef, .undef, .undef, .undef, .undef, .undef, .undef, .undef, .undef, .undef, .undef, .undef, .undef, .undef, .undef, .undef, .undef], h⟩
/-- heartwood/sha.Step -/
def i_sha_Step : Ev.Fn := ⟨2, 49, 3,
  (.seq
   (.reg [] [
     ⟨(some 2), .box 0 8 (.t 0), none, []⟩,
     ⟨(some 4), .new 1 [(.int .u32 0), (.int .u32 0), (.int .u32 0), (.int .u32 0), (.int .u32 0), (.int .u32 0), (.int .u32 0), (.int .u32 0)], none, []⟩,
     ⟨(some 5), .mv (.k .nilIface), none, []⟩])
   (.seq
    (.reg [] [
      ⟨(some 13), .cn (.t 1), none, []⟩,
      ⟨(some 14), .qcall n_sha_Words [(.t 13)] [], none, []⟩,
      ⟨(some 12), .mv (.t 14), none, []⟩,
      ⟨(some 15), .ext 0 (.t 12), none, []⟩,
      ⟨(some 16), .ext 1 (.t 12), none, []⟩,
      ⟨(some 6), .cn (.t 15), none, []⟩,
      ⟨(some 7), .mv (.t 16), none, []⟩])
    (.seq
     (.seq
      (.reg [] [
        ⟨(some 17), .mv (.t 7), none, []⟩,
        ⟨(some 18), .bin (.iface ty_api_Code true) .neq (.t 17) (.k .nilIface), none, []⟩])
      (.cond (.t 18)
       (.seq
        (.reg [] [
          ⟨(some 19), .build [(.int .u32 0), (.int .u32 0), (.int .u32 0), (.int .u32 0), (.int .u32 0), (.int .u32 0), (.int .u32 0), (.int .u32 0)] [], none, []⟩,
          ⟨(some 20), .mv (.t 7), none, []⟩,
          ⟨none, .store 8 (.t 4) (.t 19), none, []⟩,
          ⟨(some 5), .mv (.t 20), none, []⟩])
        (.ret i_sha_Step_r))
       .skip))
     (.seq
      (.reg [] [
        ⟨(some 21), .load true 8 (.t 2), none, []⟩,
        ⟨(some 8), .new 2 [(.int .u32 0), (.int .u32 0), (.int .u32 0), (.int .u32 0), (.int .u32 0), (.int .u32 0), (.int .u32 0), (.int .u32 0)], none, []⟩,
        ⟨none, .store 8 (.t 8) (.t 21), none, []⟩])
      (.seq
       (.seq
        (.reg [] [
          ⟨(some 22), .cn (.t 6), none, []⟩,
          ⟨(some 23), .len false (.t 22), none, []⟩,
          ⟨(some 24), .mv (.k (.int .i64 0)), none, []⟩])
        (.block 0 i_sha_Step_j0
         (.loop i_sha_Step_k0 i_sha_Step_b0)))
       (.seq
        (.seq
         (.reg [] [
           ⟨(some 36), .mv (.k (.int .i64 0)), none, []⟩])
         (.block 2 i_sha_Step_j2
          (.loop i_sha_Step_k1 i_sha_Step_b1)))
        (.seq
         (.reg [] [
           ⟨(some 48), .load true 8 (.t 2), none, []⟩,
           ⟨none, .store 8 (.t 4) (.t 48), none, []⟩,
           ⟨(some 5), .mv (.k .nilIface), none, []⟩])
         (.ret i_sha_Step_r)))))))),
  [.cell 4 true 8, .tmp 5], [], false, []⟩

def i_sha_Words_r : List Bool := [false, false, true, true, false, false, false, false, false, false, false, false, false, false, false, false, false, false, false, false, false, false, false, false, false, false, false, false, false, false, false, false, false, false, false, false, false, false, false, false, false, false, false, false, false, false, false, false, false, false, false, false, false, false, false, false, false, false, false, false, false, false, false, false, false, false, false, false, false, false, false, false, false, false, false, false, false, false, false, false, false, false, false, false, false, false, false]
def i_sha_Words_j1 : List Bool := [false, false, false, false, true, false, false, false, false, false, false, false, false, false, false, false, false, true, true, true, false, false, false, false, false, false, false, false, false, false, false, false, false, false, false, false, false, false, false, false, false, false, false, false, false, false, false, false, false, false, false, false, false, false, false, false, false, false, false, false, false, false, false, false, false, false, false, false, false, false, false, false, false, false, false, false, false, false, false, false, false, false, false, false, false, false, false]
def i_sha_Words_k0 : List Bool := [false, false, false, false, true, false, false, false, false, false, false, false, false, false, false, false, false, true, true, true, false, false, false, false, false, false, false, false, false, false, false, false, false, false, false, false, false, false, false, false, false, false, false, false, false, false, false, false, false, false, false, false, false, false, false, false, false, false, false, false, false, false, false, false, false, false, false, false, false, false, false, false, false, false, false, false, false, false, false, false, false, false, false, false, false, false, false]
def i_sha_Words_j0 : List Bool := [false, false, false, false, true, false, false, false, false, false, false, false, false, false, false, false, false, false, false, false, false, false, false, false, false, false, false, false, false, false, false, false, false, false, false, false, false, false, false, false, false, false, false, false, false, false, false, false, false, false, false, false, false, false, false, false, false, false, false, false, false, false, false, false, false, false, false, false, false, false, false, false, false, false, false, false, false, false, false, false, false, false, false, false, false, false, false]
def i_sha_Words_j3 : List Bool := [false, false, false, false, true, false, false, true, false, false, false, false, false, false, false, false, false, false, false, false, false, false, false, false, false, false, false, false, false, false, false, false, false, false, false, false, false, false, false, false, false, false, false, false, false, false, false, false, false, false, false, false, false, false, false, false, false, false, false, false, false, false, false, false, false, false, false, false, false, false, false, false, false, false, false, false, false, false, false, false, false, false, false, false, false, false, false]
def i_sha_Words_k1 : List Bool := [false, false, false, false, true, false, false, true, false, false, false, false, false, false, false, false, false, false, false, false, false, false, false, false, false, false, false, false, false, false, false, false, false, false, false, false, false, false, false, false, false, false, false, false, false, false, false, false, false, false, false, false, false, false, false, false, false, false, false, false, false, false, false, false, false, false, false, false, false, false, false, false, false, false, false, false, false, false, false, false, false, false, false, false, false, false, false]
def i_sha_Words_j2 : List Bool := [false, false, false, false, true, false, false, false, false, false, false, false, false, false, false, false, false, false, false, false, false, false, false, false, false, false, false, false, false, false, false, false, false, false, false, false, false, false, false, false, false, false, false, false, false, false, false, false, false, false, false, false, false, false, false, false, false, false, false, false, false, false, false, false, false, false, false, false, false, false, false, false, false, false, false, false, false, false, false, false, false, false, false, false, false, false, false]
abbrev s_sha_Words_R (t2 t3 : AV) (h : Heap) : St := ⟨[.undef, .undef, t2, t3, .undef, .undef, .undef, .undef, .undef, .undef, .undef, .undef, .undef, .undef, .undef, .undef, .undef, .undef, .undef, .undef, .undef, .undef, .undef, .undef, .undef, .undef, .undef, .undef, .undef, .undef, .undef, .undef, .undef, .undef, .undef, .undef, .undef, .undef, .undef, .undef, .undef, .undef, .undef, .undef, .undef, .undef, .undef, .undef, .undef, .undef, .undef, .undef, .undef, .undef, .undef, .undef, .undef, .undef, .undef, .undef, .undef, .undef, .undef, .undef, .undef, .undef, .undef, .undef, .undef, .undef, .undef, .undef, .undef, .undef, .undef, .undef, .undef, .undef, .undef, .undef, .undef, .undef, .undef, .undef, .undef, .undef, .undef], h⟩
abbrev s_sha_Words_K0 (t4 t17 t18 t19 : AV) (h : Heap) : St := ⟨[.undef, .undef, .undef, .undef, t4, .undef, .undef, .undef, .undef, .undef, .undef, .undef, .undef, .undef, .undef, .undef, .undef, t17, t18, t19, .undef, .undef, .undef, .undef, .undef, .undef, .undef, .undef, .undef, .undef, .undef, .undef, .undef, .undef, .undef, .undef, .undef, .undef, .undef, .undef, .undef, .undef, .undef, .undef, .undef, .undef, .undef, .undef, .undef, .undef, .undef, .undef, .undef, .undef, .undef, .undef, .undef, .undef, .undef, .undef, .undef, .undef, .undef, .undef, .undef, .undef, .undef, .undef, .undef, .undef, .undef, .undef, .undef, .undef, .undef, .undef, .undef, .undef, .undef, .undef, .undef, .undef, .undef, .undef, .undef, .undef, .undef], h⟩
def i_sha_Words_b0 : IR :=
  (.seq
   (.reg [] [
     ⟨(some 20), .bin .plain .lss (.t 19) (.t 18), none, []⟩])
   (.seq
    (.cond (.t 20)
     .skip
     (.exit 0 i_sha_Words_j0))
    (.seq
     (.block 1 i_sha_Words_j1
      (.seq
       (.reg [] [
         ⟨(some 21), .mv (.t 19), none, []⟩,
         ⟨(some 22), .ia 1 (.t 17) (.t 19), none, []⟩,
         ⟨(some 23), .load false 1 (.t 22), none, []⟩,
         ⟨(some 5), .mv (.t 21), none, []⟩,
         ⟨(some 6), .mv (.t 23), none, []⟩])
       (.reg [] [
         ⟨(some 24), .mv (.t 4), none, []⟩,
         ⟨(some 25), .mv (.t 5), none, []⟩,
         ⟨(some 26), .bin .plain .quo (.t 25) (.k (.int .i64 4)), none, []⟩,
         ⟨(some 27), .cn (.t 4), none, []⟩,
         ⟨(some 28), .mv (.t 5), none, []⟩,
         ⟨(some 29), .bin .plain .quo (.t 28) (.k (.int .i64 4)), none, []⟩,
         ⟨(some 30), .ia 1 (.t 27) (.t 29), none, []⟩,
         ⟨(some 31), .load false 1 (.t 30), none, []⟩,
         ⟨(some 32), .bin .plain .shl (.t 31) (.k (.int .u64 8)), none, []⟩,
         ⟨(some 33), .mv (.t 6), none, []⟩,
         ⟨(some 34), .conv .u32 (.t 33), none, []⟩,
         ⟨(some 35), .bin .plain .or (.t 32) (.t 34), none, []⟩,
         ⟨(some 36), .ia 1 (.t 24) (.t 26), none, []⟩,
         ⟨none, .store 1 (.t 36) (.t 35), none, []⟩])))
     (.reg [] [
       ⟨(some 37), .bin .plain .add (.t 19) (.k (.int .i64 1)), none, []⟩,
       ⟨(some 19), .mv (.t 37), none, []⟩]))))

abbrev s_sha_Words_J0 (t4 : AV) (h : Heap) : St := ⟨[.undef, .undef, .undef, .undef, t4, .undef, .undef, .undef, .undef, .undef, .undef, .undef, .undef, .undef, .undef, .undef, .undef, .undef, .undef, .undef, .undef, .undef, .undef, .undef, .undef, .undef, .undef, .undef, .undef, .undef, .undef, .undef, .undef, .undef, .undef, .undef, .undef, .undef, .undef, .undef, .undef, .undef, .undef, .undef, .undef, .undef, .undef, .undef, .undef, .undef, .undef, .undef, .undef, .undef, .undef, .undef, .undef, .undef, .undef, .undef, .undef, .undef, .undef, .undef, .undef, .undef, .undef, .undef, .undef, .undef, .undef, .undef, .undef, .undef, .undef, .undef, .undef, .undef, .undef, .undef, .undef, .undef, .undef, .undef, .undef, .undef, .undef], h⟩
abbrev s_sha_Words_K1 (t4 t7 : AV) (h : Heap) : St := ⟨[.undef, .undef, .undef, .undef, t4, .undef, .undef, t7, .undef, .undef, .undef, .undef, .undef, .undef, .undef, .undef, .undef, .undef, .undef, .undef, .undef, .undef, .undef, .undef, .undef, .undef, .undef, .undef, .undef, .undef, .undef, .undef, .undef, .undef, .undef, .undef, .undef, .undef, .undef, .undef, .undef, .undef, .undef, .undef, .undef, .undef, .undef, .undef, .undef, .undef, .undef, .undef, .undef, .undef, .undef, .undef, .undef, .undef, .undef, .undef, .undef, .undef, .undef, .undef, .undef, .undef, .undef, .undef, .undef, .undef, .undef, .undef, .undef, .undef, .undef, .undef, .undef, .undef, .undef, .undef, .undef, .undef, .undef, .undef, .undef, .undef, .undef], h⟩
def i_sha_Words_b1 : IR :=
  (.seq
   (.seq
    (.reg [] [
      ⟨(some 38), .mv (.t 7), none, []⟩,
      ⟨(some 39), .bin .plain .lss (.t 38) (.k (.int .i64 64)), none, []⟩])
    (.cond (.t 39)
     .skip
     (.exit 2 i_sha_Words_j2)))
   (.seq
    (.block 3 i_sha_Words_j3
     (.seq
      (.reg [] [
        ⟨(some 42), .cn (.t 4), none, []⟩,
        ⟨(some 43), .mv (.t 7), none, []⟩,
        ⟨(some 44), .bin .plain .sub (.t 43) (.k (.int .i64 15)), none, []⟩,
        ⟨(some 45), .ia 1 (.t 42) (.t 44), none, []⟩,
        ⟨(some 46), .load false 1 (.t 45), none, []⟩,
        ⟨(some 47), .cn (.t 4), none, []⟩,
        ⟨(some 48), .mv (.t 7), none, []⟩,
        ⟨(some 49), .bin .plain .sub (.t 48) (.k (.int .i64 2)), none, []⟩,
        ⟨(some 50), .ia 1 (.t 47) (.t 49), none, []⟩,
        ⟨(some 51), .load false 1 (.t 50), none, []⟩,
        ⟨(some 8), .mv (.t 46), none, []⟩,
        ⟨(some 9), .mv (.t 51), none, []⟩])
      (.seq
       (.reg [] [
         ⟨(some 52), .mv (.t 8), none, []⟩,
         ⟨(some 53), .qcall n_math_bits_RotateLeft32 [(.t 52), (.k (.int .i64 (-7)))] [], none, []⟩,
         ⟨(some 54), .mv (.t 8), none, []⟩,
         ⟨(some 55), .qcall n_math_bits_RotateLeft32 [(.t 54), (.k (.int .i64 (-18)))] [], none, []⟩,
         ⟨(some 56), .bin .plain .xor (.t 53) (.t 55), none, []⟩,
         ⟨(some 57), .mv (.t 8), none, []⟩,
         ⟨(some 58), .bin .plain .shr (.t 57) (.k (.int .u64 3)), none, []⟩,
         ⟨(some 59), .bin .plain .xor (.t 56) (.t 58), none, []⟩,
         ⟨(some 10), .mv (.t 59), none, []⟩])
       (.seq
        (.reg [] [
          ⟨(some 60), .mv (.t 9), none, []⟩,
          ⟨(some 61), .qcall n_math_bits_RotateLeft32 [(.t 60), (.k (.int .i64 (-17)))] [], none, []⟩,
          ⟨(some 62), .mv (.t 9), none, []⟩,
          ⟨(some 63), .qcall n_math_bits_RotateLeft32 [(.t 62), (.k (.int .i64 (-19)))] [], none, []⟩,
          ⟨(some 64), .bin .plain .xor (.t 61) (.t 63), none, []⟩,
          ⟨(some 65), .mv (.t 9), none, []⟩,
          ⟨(some 66), .bin .plain .shr (.t 65) (.k (.int .u64 10)), none, []⟩,
          ⟨(some 67), .bin .plain .xor (.t 64) (.t 66), none, []⟩,
          ⟨(some 11), .mv (.t 67), none, []⟩])
        (.reg [] [
          ⟨(some 68), .mv (.t 4), none, []⟩,
          ⟨(some 69), .mv (.t 7), none, []⟩,
          ⟨(some 70), .cn (.t 4), none, []⟩,
          ⟨(some 71), .mv (.t 7), none, []⟩,
          ⟨(some 72), .bin .plain .sub (.t 71) (.k (.int .i64 16)), none, []⟩,
          ⟨(some 73), .ia 1 (.t 70) (.t 72), none, []⟩,
          ⟨(some 74), .load false 1 (.t 73), none, []⟩,
          ⟨(some 75), .mv (.t 10), none, []⟩,
          ⟨(some 76), .bin .plain .add (.t 74) (.t 75), none, []⟩,
          ⟨(some 77), .cn (.t 4), none, []⟩,
          ⟨(some 78), .mv (.t 7), none, []⟩,
          ⟨(some 79), .bin .plain .sub (.t 78) (.k (.int .i64 7)), none, []⟩,
          ⟨(some 80), .ia 1 (.t 77) (.t 79), none, []⟩,
          ⟨(some 81), .load false 1 (.t 80), none, []⟩,
          ⟨(some 82), .bin .plain .add (.t 76) (.t 81), none, []⟩,
          ⟨(some 83), .mv (.t 11), none, []⟩,
          ⟨(some 84), .bin .plain .add (.t 82) (.t 83), none, []⟩,
          ⟨(some 85), .ia 1 (.t 68) (.t 69), none, []⟩,
          ⟨none, .store 1 (.t 85) (.t 84), none, []⟩])))))
    (.reg [] [
      ⟨(some 40), .mv (.t 7), none, []⟩,
      ⟨(some 41), .bin .plain .add (.t 40) (.k (.int .i64 1)), none, []⟩,
      ⟨(some 7), .mv (.t 41), none, []⟩])))

abbrev s_sha_Words_J2 (t4 : AV) (h : Heap) : St := ⟨[.undef, .undef, .undef, .undef, t4, .undef, .undef, .undef, .undef, .undef, .undef, .undef, .undef, .undef, .undef, .undef, .undef, .undef, .undef, .undef, .undef, .undef, .undef, .undef, .undef, .undef, .undef, .undef, .undef, .undef, .undef, .undef, .undef, .undef, .undef, .undef, .undef, .undef, .undef, .undef, .undef, .undef, .undef, .undef, .undef, .undef, .undef, .undef, .undef, .undef, .undef, .undef, .undef, .undef, .undef, .undef, .undef, .undef, .undef, .undef, .undef, .undef, .undef, .undef, .undef, .undef, .undef, .undef, .undef, .undef, .undef, .undef, .undef, .undef, .undef, .undef, .undef, .undef, .undef, .undef, .undef, .undef, .undef, .undef, .undef, .undef, .undef], h⟩
/-- heartwood/sha.Words -/
def i_sha_Words : Ev.Fn := ⟨1, 87, 1,
  (.seq
   (.reg [] [
     ⟨(some 2), .cn (.k (.slice none 0 0)), none, []⟩,
     ⟨(some 3), .mv (.k .nilIface), none, []⟩])
   (.seq
    (.seq
     (.reg [] [
       ⟨(some 12), .cn (.t 0), none, []⟩,
       ⟨(some 13), .len false (.t 12), none, []⟩,
       ⟨(some 14), .bin .plain .neq (.t 13) (.k (.int .i64 64)), none, []⟩])
     (.cond (.t 14)
      (.seq
       (.reg [] [
         ⟨(some 15), .mki ty_api_Code (.k (.int .i64 1)), none, []⟩,
         ⟨(some 2), .cn (.k (.slice none 0 0)), none, []⟩,
         ⟨(some 3), .mv (.t 15), none, []⟩])
       (.ret i_sha_Words_r))
      .skip))
    (.seq
     (.reg [] [
       ⟨(some 16), .make 0 ty_uint32 1 4 [(.int .u32 0)] (.k (.int .i64 64)) (.k (.int .i64 64)), none, []⟩,
       ⟨(some 4), .mv (.t 16), none, []⟩])
     (.seq
      (.seq
       (.reg [] [
         ⟨(some 17), .cn (.t 0), none, []⟩,
         ⟨(some 18), .len false (.t 17), none, []⟩,
         ⟨(some 19), .mv (.k (.int .i64 0)), none, []⟩])
       (.block 0 i_sha_Words_j0
        (.loop i_sha_Words_k0 i_sha_Words_b0)))
      (.seq
       (.seq
        (.reg [] [
          ⟨(some 7), .mv (.k (.int .i64 16)), none, []⟩])
        (.block 2 i_sha_Words_j2
         (.loop i_sha_Words_k1 i_sha_Words_b1)))
       (.seq
        (.reg [] [
          ⟨(some 86), .cn (.t 4), none, [4]⟩,
          ⟨(some 2), .cn (.t 86), none, [86]⟩,
          ⟨(some 3), .mv (.k .nilIface), none, []⟩])
        (.ret i_sha_Words_r))))))),
  [.tmp 2, .tmp 3], [], false, []⟩

def i_math_bits_RotateLeft32_r : List Bool := [false, false, false, false, true, false, false, false, false, false, false, false, false, false, false, false, false]
/-- math/bits.RotateLeft32 -/
def i_math_bits_RotateLeft32 : Ev.Fn := ⟨2, 17, 0,
  (.seq
   (.reg [] [
     ⟨(some 4), .mv (.k (.int .u32 0)), none, []⟩])
   (.seq
    (.reg [] [
      ⟨(some 6), .mv (.t 1), none, []⟩,
      ⟨(some 7), .conv .u64 (.t 6), none, []⟩,
      ⟨(some 8), .bin .plain .and (.t 7) (.k (.int .u64 31)), none, []⟩,
      ⟨(some 5), .mv (.t 8), none, []⟩])
    (.seq
     (.reg [] [
       ⟨(some 9), .mv (.t 0), none, []⟩,
       ⟨(some 10), .mv (.t 5), none, []⟩,
       ⟨(some 11), .bin .plain .shl (.t 9) (.t 10), none, []⟩,
       ⟨(some 12), .mv (.t 0), none, []⟩,
       ⟨(some 13), .mv (.t 5), none, []⟩,
       ⟨(some 14), .bin .plain .sub (.k (.int .u64 32)) (.t 13), none, []⟩,
       ⟨(some 15), .bin .plain .shr (.t 12) (.t 14), none, []⟩,
       ⟨(some 16), .bin .plain .or (.t 11) (.t 15), none, []⟩,
       ⟨(some 4), .mv (.t 16), none, []⟩])
     (.ret i_math_bits_RotateLeft32_r)))),
  [.tmp 4], [], false, []⟩

def i_sha_Round_r : List Bool := [false, false, false, false, false, false, true, false, false, false, false, false, false, false, false, false, false, false, false, false, false, false, false, false, false, false, false, false, false, false, false, false, false, false, false, false, false, false, false, false, false, false, false, false, false, false, false, false, false, false, false, false, false, false, false, false, false, false, false, false, false, false, false, false, false, false, false, false, false, false, false, false, false, false, false, false, false, false, false, false, false, false, false, false, false]
/-- heartwood/sha.Round -/
def i_sha_Round : Ev.Fn := ⟨3, 85, 2,
  (.seq
   (.reg [] [
     ⟨(some 3), .box 0 8 (.t 0), none, []⟩,
     ⟨(some 6), .new 1 [(.int .u32 0), (.int .u32 0), (.int .u32 0), (.int .u32 0), (.int .u32 0), (.int .u32 0), (.int .u32 0), (.int .u32 0)], none, []⟩])
   (.seq
    (.reg [] [
      ⟨(some 15), .iap 8 1 (.t 3) (.k (.int .i64 0)), none, []⟩,
      ⟨(some 16), .load false 1 (.t 15), none, []⟩,
      ⟨(some 17), .iap 8 1 (.t 3) (.k (.int .i64 1)), none, []⟩,
      ⟨(some 18), .load false 1 (.t 17), none, []⟩,
      ⟨(some 19), .iap 8 1 (.t 3) (.k (.int .i64 2)), none, []⟩,
      ⟨(some 20), .load false 1 (.t 19), none, []⟩,
      ⟨(some 21), .iap 8 1 (.t 3) (.k (.int .i64 4)), none, []⟩,
      ⟨(some 22), .load false 1 (.t 21), none, []⟩,
      ⟨(some 23), .iap 8 1 (.t 3) (.k (.int .i64 5)), none, []⟩,
      ⟨(some 24), .load false 1 (.t 23), none, []⟩,
      ⟨(some 25), .iap 8 1 (.t 3) (.k (.int .i64 6)), none, []⟩,
      ⟨(some 26), .load false 1 (.t 25), none, []⟩,
      ⟨(some 7), .mv (.t 16), none, []⟩,
      ⟨(some 8), .mv (.t 18), none, []⟩,
      ⟨(some 9), .mv (.t 20), none, []⟩,
      ⟨(some 10), .mv (.t 22), none, []⟩,
      ⟨(some 11), .mv (.t 24), none, []⟩,
      ⟨(some 12), .mv (.t 26), none, []⟩])
    (.seq
     (.reg [] [
       ⟨(some 27), .iap 8 1 (.t 3) (.k (.int .i64 7)), none, []⟩,
       ⟨(some 28), .load false 1 (.t 27), none, []⟩,
       ⟨(some 29), .mv (.t 10), none, []⟩,
       ⟨(some 30), .qcall n_math_bits_RotateLeft32 [(.t 29), (.k (.int .i64 (-6)))] [], none, []⟩,
       ⟨(some 31), .mv (.t 10), none, []⟩,
       ⟨(some 32), .qcall n_math_bits_RotateLeft32 [(.t 31), (.k (.int .i64 (-11)))] [], none, []⟩,
       ⟨(some 33), .bin .plain .xor (.t 30) (.t 32), none, []⟩,
       ⟨(some 34), .mv (.t 10), none, []⟩,
       ⟨(some 35), .qcall n_math_bits_RotateLeft32 [(.t 34), (.k (.int .i64 (-25)))] [], none, []⟩,
       ⟨(some 36), .bin .plain .xor (.t 33) (.t 35), none, []⟩,
       ⟨(some 37), .bin .plain .add (.t 28) (.t 36), none, []⟩,
       ⟨(some 38), .mv (.t 10), none, []⟩,
       ⟨(some 39), .mv (.t 11), none, []⟩,
       ⟨(some 40), .bin .plain .and (.t 38) (.t 39), none, []⟩,
       ⟨(some 41), .mv (.t 10), none, []⟩,
       ⟨(some 42), .un .xor (.t 41), none, []⟩,
       ⟨(some 43), .mv (.t 12), none, []⟩,
       ⟨(some 44), .bin .plain .and (.t 42) (.t 43), none, []⟩,
       ⟨(some 45), .bin .plain .xor (.t 40) (.t 44), none, []⟩,
       ⟨(some 46), .bin .plain .add (.t 37) (.t 45), none, []⟩,
       ⟨(some 47), .mv (.t 1), none, []⟩,
       ⟨(some 48), .bin .plain .add (.t 46) (.t 47), none, []⟩,
       ⟨(some 49), .mv (.t 2), none, []⟩,
       ⟨(some 50), .bin .plain .add (.t 48) (.t 49), none, []⟩,
       ⟨(some 13), .mv (.t 50), none, []⟩])
     (.seq
      (.reg [] [
        ⟨(some 51), .mv (.t 7), none, []⟩,
        ⟨(some 52), .qcall n_math_bits_RotateLeft32 [(.t 51), (.k (.int .i64 (-2)))] [], none, []⟩,
        ⟨(some 53), .mv (.t 7), none, []⟩,
        ⟨(some 54), .qcall n_math_bits_RotateLeft32 [(.t 53), (.k (.int .i64 (-13)))] [], none, []⟩,
        ⟨(some 55), .bin .plain .xor (.t 52) (.t 54), none, []⟩,
        ⟨(some 56), .mv (.t 7), none, []⟩,
        ⟨(some 57), .qcall n_math_bits_RotateLeft32 [(.t 56), (.k (.int .i64 (-22)))] [], none, []⟩,
        ⟨(some 58), .bin .plain .xor (.t 55) (.t 57), none, []⟩,
        ⟨(some 59), .mv (.t 7), none, []⟩,
        ⟨(some 60), .mv (.t 8), none, []⟩,
        ⟨(some 61), .bin .plain .and (.t 59) (.t 60), none, []⟩,
        ⟨(some 62), .mv (.t 7), none, []⟩,
        ⟨(some 63), .mv (.t 9), none, []⟩,
        ⟨(some 64), .bin .plain .and (.t 62) (.t 63), none, []⟩,
        ⟨(some 65), .bin .plain .xor (.t 61) (.t 64), none, []⟩,
        ⟨(some 66), .mv (.t 8), none, []⟩,
        ⟨(some 67), .mv (.t 9), none, []⟩,
        ⟨(some 68), .bin .plain .and (.t 66) (.t 67), none, []⟩,
        ⟨(some 69), .bin .plain .xor (.t 65) (.t 68), none, []⟩,
        ⟨(some 70), .bin .plain .add (.t 58) (.t 69), none, []⟩,
        ⟨(some 14), .mv (.t 70), none, []⟩])
      (.seq
       (.reg [] [
         ⟨(some 71), .mv (.t 13), none, []⟩,
         ⟨(some 72), .mv (.t 14), none, []⟩,
         ⟨(some 73), .bin .plain .add (.t 71) (.t 72), none, []⟩,
         ⟨(some 74), .mv (.t 7), none, []⟩,
         ⟨(some 75), .mv (.t 8), none, []⟩,
         ⟨(some 76), .mv (.t 9), none, []⟩,
         ⟨(some 77), .iap 8 1 (.t 3) (.k (.int .i64 3)), none, []⟩,
         ⟨(some 78), .load false 1 (.t 77), none, []⟩,
         ⟨(some 79), .mv (.t 13), none, []⟩,
         ⟨(some 80), .bin .plain .add (.t 78) (.t 79), none, []⟩,
         ⟨(some 81), .mv (.t 10), none, []⟩,
         ⟨(some 82), .mv (.t 11), none, []⟩,
         ⟨(some 83), .mv (.t 12), none, []⟩,
         ⟨(some 84), .build [(.int .u32 0), (.int .u32 0), (.int .u32 0), (.int .u32 0), (.int .u32 0), (.int .u32 0), (.int .u32 0), (.int .u32 0)] [(0, 1, (.t 73)), (1, 1, (.t 74)), (2, 1, (.t 75)), (3, 1, (.t 76)), (4, 1, (.t 80)), (5, 1, (.t 81)), (6, 1, (.t 82)), (7, 1, (.t 83))], none, []⟩,
         ⟨none, .store 8 (.t 6) (.t 84), none, []⟩])
       (.ret i_sha_Round_r)))))),
  [.cell 6 true 8], [], false, []⟩

def tab (f : Nat) : Option Ev.Fn := match f with
  | 3 => some i_law01_ShaStays
  | 5 => some i_sha_Sum
  | 12 => some i_sha_Tail
  | 13 => some i_sha_Step
  | 6 => some i_sha_Words
  | 14 => some i_math_bits_RotateLeft32
  | 20 => some i_sha_Round
  | _ => none
theorem t_law01_ShaStays : tab n_law01_ShaStays = some i_law01_ShaStays := rfl
theorem t_sha_Sum : tab n_sha_Sum = some i_sha_Sum := rfl
theorem t_sha_Tail : tab n_sha_Tail = some i_sha_Tail := rfl
theorem t_sha_Step : tab n_sha_Step = some i_sha_Step := rfl
theorem t_sha_Words : tab n_sha_Words = some i_sha_Words := rfl
theorem t_math_bits_RotateLeft32 : tab n_math_bits_RotateLeft32 = some i_math_bits_RotateLeft32 := rfl
theorem t_sha_Round : tab n_sha_Round = some i_sha_Round := rfl
/-- The constants of the rounds, and the words at first. -/
def tabK : List Int := [1116352408, 1899447441, 3049323471, 3921009573, 961987163, 1508970993, 2453635748, 2870763221, 3624381080, 310598401, 607225278, 1426881987, 1925078388, 2162078206, 2614888103, 3248222580, 3835390401, 4022224774, 264347078, 604807628, 770255983, 1249150122, 1555081692, 1996064986, 2554220882, 2821834349, 2952996808, 3210313671, 3336571891, 3584528711, 113926993, 338241895, 666307205, 773529912, 1294757372, 1396182291, 1695183700, 1986661051, 2177026350, 2456956037, 2730485921, 2820302411, 3259730800, 3345764771, 3516065817, 3600352804, 4094571909, 275423344, 430227734, 506948616, 659060556, 883997877, 958139571, 1322822218, 1537002063, 1747873779, 1955562222, 2024104815, 2227730452, 2361852424, 2428436474, 2756734187, 3204031479, 3329325298]
def tabH : List Int := [1779033703, 3144134277, 1013904242, 2773480762, 1359893119, 2600822924, 528734635, 1541459225]
def gK : List C := tabK.map fun n => .sc (.int .u32 n)
def gH : List C := tabH.map fun n => .sc (.int .u32 n)
def G0 : Cf := ⟨fun g => if g = 0 then gH else if g = 1 then gK else [], false⟩
theorem G0_0 : G0.G 0 = gH := rfl
theorem G0_1 : G0.G 1 = gK := rfl
theorem gK_len : gK.length = 64 := rfl
theorem gH_len : gH.length = 8 := rfl
theorem gK_at {i : Nat} (h : i < 64) : (gK.drop i).take 1 = [.sc (.int .u32 (tabK.getD i 0))] := by
  have hl : tabK.length = 64 := rfl
  rw [gK, List.drop_eq_getElem_cons (by rw [List.length_map]; omega)]
  simp only [List.take_succ_cons, List.take_zero, List.getElem_map, List.getD, List.getElem?_eq_getElem (show i < tabK.length by omega), Option.getD_some]
theorem gH_take : gH.take 8 = gH := rfl
attribute [go_sem] G0_0 G0_1 gK_len gH_len gK_at gH_take
theorem lt_law01_ShaStays : (n_law01_ShaStays < 1000000) = True := eq_true (by decide)
attribute [go_sem] lt_law01_ShaStays
theorem lt_sha_Sum : (n_sha_Sum < 1000000) = True := eq_true (by decide)
attribute [go_sem] lt_sha_Sum
theorem lt_sha_Tail : (n_sha_Tail < 1000000) = True := eq_true (by decide)
attribute [go_sem] lt_sha_Tail
theorem lt_sha_Step : (n_sha_Step < 1000000) = True := eq_true (by decide)
attribute [go_sem] lt_sha_Step
theorem lt_sha_Words : (n_sha_Words < 1000000) = True := eq_true (by decide)
attribute [go_sem] lt_sha_Words
theorem lt_math_bits_RotateLeft32 : (n_math_bits_RotateLeft32 < 1000000) = True := eq_true (by decide)
attribute [go_sem] lt_math_bits_RotateLeft32
theorem lt_sha_Round : (n_sha_Round < 1000000) = True := eq_true (by decide)
attribute [go_sem] lt_sha_Round
theorem ca_law01_ShaStays (l : List AV) : cArgs tab n_law01_ShaStays l = canonA [] l := rfl
attribute [go_sem] t_law01_ShaStays ca_law01_ShaStays
theorem ca_sha_Sum (l : List AV) : cArgs tab n_sha_Sum l = canonA [] l := rfl
attribute [go_sem] t_sha_Sum ca_sha_Sum
theorem ca_sha_Tail (l : List AV) : cArgs tab n_sha_Tail l = canonA [] l := rfl
attribute [go_sem] t_sha_Tail ca_sha_Tail
theorem ca_sha_Step (l : List AV) : cArgs tab n_sha_Step l = canonA [] l := rfl
attribute [go_sem] t_sha_Step ca_sha_Step
theorem ca_sha_Words (l : List AV) : cArgs tab n_sha_Words l = canonA [] l := rfl
attribute [go_sem] t_sha_Words ca_sha_Words
theorem ca_math_bits_RotateLeft32 (l : List AV) : cArgs tab n_math_bits_RotateLeft32 l = canonA [] l := rfl
attribute [go_sem] t_math_bits_RotateLeft32 ca_math_bits_RotateLeft32
theorem ca_sha_Round (l : List AV) : cArgs tab n_sha_Round l = canonA [] l := rfl
attribute [go_sem] t_sha_Round ca_sha_Round
theorem kt_law01_ShaStays_r (l : List AV) : keepT i_law01_ShaStays_r l = keepT [false, false, false, false, true, false, false, false, false, false, false, false, false, false, false, false, false, false, false, false, false, false, false, false, false, false, false, false, false, false, false, false, false, false, false, false, false, false, false, false, false, false, false, false, false, false, false, false, false, false, false, false, false, false, false, false, false, false, false, false, false, false, false, false, false, false, false, false, false, false, false, false, false, false, false, false, false, false, false, false, false, false, false, false, false, false, false, false, false, false, false] l := rfl
attribute [go_sem] kt_law01_ShaStays_r
theorem kt_law01_ShaStays_j1 (l : List AV) : keepT i_law01_ShaStays_j1 l = keepT [true, false, false, true, false, true, true, true, false, false, false, false, false, false, false, false, false, false, false, false, false, false, false, false, false, false, false, false, false, false, false, false, false, false, false, false, false, false, false, false, false, false, false, false, false, false, false, false, false, false, false, false, false, false, false, false, false, false, false, false, false, false, false, false, false, false, false, false, false, false, false, false, false, false, false, false, false, false, false, false, false, false, false, false, false, false, false, false, false, false, false] l := rfl
attribute [go_sem] kt_law01_ShaStays_j1
theorem kt_law01_ShaStays_k0 (l : List AV) : keepT i_law01_ShaStays_k0 l = keepT [true, false, false, true, false, true, true, true, false, false, false, false, false, false, false, false, false, false, false, false, false, false, false, false, false, false, false, false, false, false, false, false, false, false, false, false, false, false, false, false, false, false, false, false, false, false, false, false, false, false, false, false, false, false, false, false, false, false, false, false, false, false, false, false, false, false, false, false, false, false, false, false, false, false, false, false, false, false, false, false, false, false, false, false, false, false, false, false, false, false, false] l := rfl
attribute [go_sem] kt_law01_ShaStays_k0
theorem kt_law01_ShaStays_j0 (l : List AV) : keepT i_law01_ShaStays_j0 l = keepT [true, false, false, true, false, false, true, false, false, false, false, false, false, false, false, false, false, false, false, false, false, false, false, false, false, false, false, false, false, false, false, false, false, false, false, false, false, false, false, false, false, false, false, false, false, false, false, false, false, false, false, false, false, false, false, false, false, false, false, false, false, false, false, false, false, false, false, false, false, false, false, false, false, false, false, false, false, false, false, false, false, false, false, false, false, false, false, false, false, false, false] l := rfl
attribute [go_sem] kt_law01_ShaStays_j0
theorem kt_law01_ShaStays_j3 (l : List AV) : keepT i_law01_ShaStays_j3 l = keepT [false, false, false, true, false, false, true, false, true, true, true, false, false, false, false, false, false, false, false, false, false, false, false, false, false, false, false, false, false, false, false, false, false, false, false, false, false, false, false, false, false, false, false, false, false, false, false, false, false, false, false, false, false, false, false, false, false, false, false, false, false, false, false, false, false, false, false, false, false, false, false, false, false, false, false, false, false, false, false, false, false, false, false, false, false, false, false, false, false, false, false] l := rfl
attribute [go_sem] kt_law01_ShaStays_j3
theorem kt_law01_ShaStays_k1 (l : List AV) : keepT i_law01_ShaStays_k1 l = keepT [false, false, false, true, false, false, true, false, true, true, true, false, false, false, false, false, false, false, false, false, false, false, false, false, false, false, false, false, false, false, false, false, false, false, false, false, false, false, false, false, false, false, false, false, false, false, false, false, false, false, false, false, false, false, false, false, false, false, false, false, false, false, false, false, false, false, false, false, false, false, false, false, false, false, false, false, false, false, false, false, false, false, false, false, false, false, false, false, false, false, false] l := rfl
attribute [go_sem] kt_law01_ShaStays_k1
theorem kt_law01_ShaStays_j2 (l : List AV) : keepT i_law01_ShaStays_j2 l = keepT [false, false, false, true, false, false, true, false, true, true, false, false, false, false, false, false, false, false, false, false, false, false, false, false, false, false, false, false, false, false, false, false, false, false, false, false, false, false, false, false, false, false, false, false, false, false, false, false, false, false, false, false, false, false, false, false, false, false, false, false, false, false, false, false, false, false, false, false, false, false, false, false, false, false, false, false, false, false, false, false, false, false, false, false, false, false, false, false, false, false, false] l := rfl
attribute [go_sem] kt_law01_ShaStays_j2
theorem kt_law01_ShaStays_j5 (l : List AV) : keepT i_law01_ShaStays_j5 l = keepT [false, false, false, true, false, false, true, false, true, true, false, true, true, true, false, false, false, false, false, false, false, false, false, false, false, false, false, false, false, false, false, false, false, false, false, false, false, false, false, false, false, false, false, false, false, false, false, false, false, false, false, false, false, false, false, false, false, false, false, false, false, false, false, false, false, false, false, false, false, false, false, false, false, false, false, false, false, false, false, false, false, false, false, false, false, false, false, false, false, false, false] l := rfl
attribute [go_sem] kt_law01_ShaStays_j5
theorem kt_law01_ShaStays_k2 (l : List AV) : keepT i_law01_ShaStays_k2 l = keepT [false, false, false, true, false, false, true, false, true, true, false, true, true, true, false, false, false, false, false, false, false, false, false, false, false, false, false, false, false, false, false, false, false, false, false, false, false, false, false, false, false, false, false, false, false, false, false, false, false, false, false, false, false, false, false, false, false, false, false, false, false, false, false, false, false, false, false, false, false, false, false, false, false, false, false, false, false, false, false, false, false, false, false, false, false, false, false, false, false, false, false] l := rfl
attribute [go_sem] kt_law01_ShaStays_k2
theorem kt_law01_ShaStays_j4 (l : List AV) : keepT i_law01_ShaStays_j4 l = keepT [false, false, false, false, false, false, true, false, true, false, false, true, true, false, false, false, false, false, false, false, false, false, false, false, false, false, false, false, false, false, false, false, false, false, false, false, false, false, false, false, false, false, false, false, false, false, false, false, false, false, false, false, false, false, false, false, false, false, false, false, false, false, false, false, false, false, false, false, false, false, false, false, false, false, false, false, false, false, false, false, false, false, false, false, false, false, false, false, false, false, false] l := rfl
attribute [go_sem] kt_law01_ShaStays_j4
theorem kt_sha_Sum_r (l : List AV) : keepT i_sha_Sum_r l = keepT [false, false, true, false, false, false, false, false, false, false, false, false, false, false, false, false, false, false, false, false, false, false, false, false, false, false, false, false, false, false, false, false, false, false, false, false, false, false, false, false, false, false, false, false, false, false, false, false, false, false, false, false, false, false, false, false, false, false, false, false, false, false, false, false, false, false, false, false, false, false, false, false, false, false, false, false] l := rfl
attribute [go_sem] kt_sha_Sum_r
theorem kt_sha_Sum_j3 (l : List AV) : keepT i_sha_Sum_j3 l = keepT [false, false, false, false, false, false, false, true, false, true, false, false, false, false, false, false, false, false, false, false, false, false, false, false, false, false, false, false, false, false, false, false, false, false, false, false, false, true, true, false, false, false, false, false, false, false, false, false, false, false, false, false, false, false, false, false, false, false, false, false, false, false, false, false, false, false, false, false, false, false, false, false, false, false, false, false] l := rfl
attribute [go_sem] kt_sha_Sum_j3
theorem kt_sha_Sum_k1 (l : List AV) : keepT i_sha_Sum_k1 l = keepT [false, false, false, false, false, false, false, true, false, true, false, false, false, false, false, false, false, false, false, false, false, false, false, false, false, false, false, false, false, false, false, false, false, false, false, false, false, true, true, false, false, false, false, false, false, false, false, false, false, false, false, false, false, false, false, false, false, false, false, false, false, false, false, false, false, false, false, false, false, false, false, false, false, false, false, false] l := rfl
attribute [go_sem] kt_sha_Sum_k1
theorem kt_sha_Sum_j2 (l : List AV) : keepT i_sha_Sum_j2 l = keepT [false, false, false, false, false, false, false, true, false, false, false, false, false, false, false, false, false, false, false, false, false, false, false, false, false, false, false, false, false, false, false, false, false, false, false, false, false, true, true, false, false, false, false, false, false, false, false, false, false, false, false, false, false, false, false, false, false, false, false, false, false, false, false, false, false, false, false, false, false, false, false, false, false, false, false, false] l := rfl
attribute [go_sem] kt_sha_Sum_j2
theorem kt_sha_Sum_j1 (l : List AV) : keepT i_sha_Sum_j1 l = keepT [false, false, false, false, false, false, false, true, false, false, false, false, false, false, false, false, false, false, false, false, false, false, false, false, false, false, false, false, false, false, false, false, false, false, false, false, false, true, true, false, false, false, false, false, false, false, false, false, false, false, false, false, false, false, false, false, false, false, false, false, false, false, false, false, false, false, false, false, false, false, false, false, false, false, false, false] l := rfl
attribute [go_sem] kt_sha_Sum_j1
theorem kt_sha_Sum_k0 (l : List AV) : keepT i_sha_Sum_k0 l = keepT [false, false, false, false, false, false, false, true, false, false, false, false, false, false, false, false, false, false, false, false, false, false, false, false, false, false, false, false, false, false, false, false, false, false, false, false, false, true, true, false, false, false, false, false, false, false, false, false, false, false, false, false, false, false, false, false, false, false, false, false, false, false, false, false, false, false, false, false, false, false, false, false, false, false, false, false] l := rfl
attribute [go_sem] kt_sha_Sum_k0
theorem kt_sha_Sum_j0 (l : List AV) : keepT i_sha_Sum_j0 l = keepT [false, false, false, false, false, false, false, true, false, false, false, false, false, false, false, false, false, false, false, false, false, false, false, false, false, false, false, false, false, false, false, false, false, false, false, false, false, false, false, false, false, false, false, false, false, false, false, false, false, false, false, false, false, false, false, false, false, false, false, false, false, false, false, false, false, false, false, false, false, false, false, false, false, false, false, false] l := rfl
attribute [go_sem] kt_sha_Sum_j0
theorem kt_sha_Sum_j5 (l : List AV) : keepT i_sha_Sum_j5 l = keepT [false, false, false, false, false, false, false, false, false, false, true, false, false, false, false, false, false, false, false, false, false, false, false, false, false, false, false, false, false, false, false, false, false, false, false, false, false, false, false, false, false, false, false, false, false, false, false, false, false, false, false, false, false, false, false, false, true, true, false, false, false, false, false, false, false, false, false, false, false, false, false, false, false, false, false, false] l := rfl
attribute [go_sem] kt_sha_Sum_j5
theorem kt_sha_Sum_k2 (l : List AV) : keepT i_sha_Sum_k2 l = keepT [false, false, false, false, false, false, false, false, false, false, true, false, false, false, false, false, false, false, false, false, false, false, false, false, false, false, false, false, false, false, false, false, false, false, false, false, false, false, false, false, false, false, false, false, false, false, false, false, false, false, false, false, false, false, false, false, true, true, false, false, false, false, false, false, false, false, false, false, false, false, false, false, false, false, false, false] l := rfl
attribute [go_sem] kt_sha_Sum_k2
theorem kt_sha_Sum_j4 (l : List AV) : keepT i_sha_Sum_j4 l = keepT [false, false, false, false, false, false, false, false, false, false, true, false, false, false, false, false, false, false, false, false, false, false, false, false, false, false, false, false, false, false, false, false, false, false, false, false, false, false, false, false, false, false, false, false, false, false, false, false, false, false, false, false, false, false, false, false, false, false, false, false, false, false, false, false, false, false, false, false, false, false, false, false, false, false, false, false] l := rfl
attribute [go_sem] kt_sha_Sum_j4
theorem kt_sha_Tail_r (l : List AV) : keepT i_sha_Tail_r l = keepT [false, false, true, true, false, false, false, false, false, false, false, false, false, false, false, false, false, false, false, false, false, false, false, false, false, false, false, false, false, false, false, false, false, false, false, false, false] l := rfl
attribute [go_sem] kt_sha_Tail_r
theorem kt_sha_Tail_j1 (l : List AV) : keepT i_sha_Tail_j1 l = keepT [true, false, false, false, true, false, false, false, false, false, false, false, false, false, false, false, false, false, false, false, false, false, false, false, false, false, false, false, false, false, false, false, false, false, false, false, false] l := rfl
attribute [go_sem] kt_sha_Tail_j1
theorem kt_sha_Tail_k0 (l : List AV) : keepT i_sha_Tail_k0 l = keepT [true, false, false, false, true, false, false, false, false, false, false, false, false, false, false, false, false, false, false, false, false, false, false, false, false, false, false, false, false, false, false, false, false, false, false, false, false] l := rfl
attribute [go_sem] kt_sha_Tail_k0
theorem kt_sha_Tail_j0 (l : List AV) : keepT i_sha_Tail_j0 l = keepT [true, false, false, false, true, false, false, false, false, false, false, false, false, false, false, false, false, false, false, false, false, false, false, false, false, false, false, false, false, false, false, false, false, false, false, false, false] l := rfl
attribute [go_sem] kt_sha_Tail_j0
theorem kt_sha_Tail_j3 (l : List AV) : keepT i_sha_Tail_j3 l = keepT [true, false, false, false, true, true, false, false, false, false, false, false, false, false, false, false, false, false, false, false, false, false, false, false, false, false, false, false, false, false, false, false, false, false, false, false, false] l := rfl
attribute [go_sem] kt_sha_Tail_j3
theorem kt_sha_Tail_k1 (l : List AV) : keepT i_sha_Tail_k1 l = keepT [true, false, false, false, true, true, false, false, false, false, false, false, false, false, false, false, false, false, false, false, false, false, false, false, false, false, false, false, false, false, false, false, false, false, false, false, false] l := rfl
attribute [go_sem] kt_sha_Tail_k1
theorem kt_sha_Tail_j2 (l : List AV) : keepT i_sha_Tail_j2 l = keepT [false, false, false, false, true, false, false, false, false, false, false, false, false, false, false, false, false, false, false, false, false, false, false, false, false, false, false, false, false, false, false, false, false, false, false, false, false] l := rfl
attribute [go_sem] kt_sha_Tail_j2
theorem kt_sha_Step_r (l : List AV) : keepT i_sha_Step_r l = keepT [false, false, false, false, true, true, false, false, false, false, false, false, false, false, false, false, false, false, false, false, false, false, false, false, false, false, false, false, false, false, false, false, false, false, false, false, false, false, false, false, false, false, false, false, false, false, false, false, false] l := rfl
attribute [go_sem] kt_sha_Step_r
theorem kt_sha_Step_j1 (l : List AV) : keepT i_sha_Step_j1 l = keepT [false, false, true, false, true, false, false, false, true, false, false, false, false, false, false, false, false, false, false, false, false, false, true, true, true, false, false, false, false, false, false, false, false, false, false, false, false, false, false, false, false, false, false, false, false, false, false, false, false] l := rfl
attribute [go_sem] kt_sha_Step_j1
theorem kt_sha_Step_k0 (l : List AV) : keepT i_sha_Step_k0 l = keepT [false, false, true, false, true, false, false, false, true, false, false, false, false, false, false, false, false, false, false, false, false, false, true, true, true, false, false, false, false, false, false, false, false, false, false, false, false, false, false, false, false, false, false, false, false, false, false, false, false] l := rfl
attribute [go_sem] kt_sha_Step_k0
theorem kt_sha_Step_j0 (l : List AV) : keepT i_sha_Step_j0 l = keepT [false, false, true, false, true, false, false, false, true, false, false, false, false, false, false, false, false, false, false, false, false, false, false, false, false, false, false, false, false, false, false, false, false, false, false, false, false, false, false, false, false, false, false, false, false, false, false, false, false] l := rfl
attribute [go_sem] kt_sha_Step_j0
theorem kt_sha_Step_j3 (l : List AV) : keepT i_sha_Step_j3 l = keepT [false, false, true, false, true, false, false, false, true, false, false, false, false, false, false, false, false, false, false, false, false, false, false, false, false, false, false, false, false, false, false, false, false, false, false, false, true, false, false, false, false, false, false, false, false, false, false, false, false] l := rfl
attribute [go_sem] kt_sha_Step_j3
theorem kt_sha_Step_k1 (l : List AV) : keepT i_sha_Step_k1 l = keepT [false, false, true, false, true, false, false, false, true, false, false, false, false, false, false, false, false, false, false, false, false, false, false, false, false, false, false, false, false, false, false, false, false, false, false, false, true, false, false, false, false, false, false, false, false, false, false, false, false] l := rfl
attribute [go_sem] kt_sha_Step_k1
theorem kt_sha_Step_j2 (l : List AV) : keepT i_sha_Step_j2 l = keepT [false, false, true, false, true, false, false, false, false, false, false, false, false, false, false, false, false, false, false, false, false, false, false, false, false, false, false, false, false, false, false, false, false, false, false, false, false, false, false, false, false, false, false, false, false, false, false, false, false] l := rfl
attribute [go_sem] kt_sha_Step_j2
theorem kt_sha_Words_r (l : List AV) : keepT i_sha_Words_r l = keepT [false, false, true, true, false, false, false, false, false, false, false, false, false, false, false, false, false, false, false, false, false, false, false, false, false, false, false, false, false, false, false, false, false, false, false, false, false, false, false, false, false, false, false, false, false, false, false, false, false, false, false, false, false, false, false, false, false, false, false, false, false, false, false, false, false, false, false, false, false, false, false, false, false, false, false, false, false, false, false, false, false, false, false, false, false, false, false] l := rfl
attribute [go_sem] kt_sha_Words_r
theorem kt_sha_Words_j1 (l : List AV) : keepT i_sha_Words_j1 l = keepT [false, false, false, false, true, false, false, false, false, false, false, false, false, false, false, false, false, true, true, true, false, false, false, false, false, false, false, false, false, false, false, false, false, false, false, false, false, false, false, false, false, false, false, false, false, false, false, false, false, false, false, false, false, false, false, false, false, false, false, false, false, false, false, false, false, false, false, false, false, false, false, false, false, false, false, false, false, false, false, false, false, false, false, false, false, false, false] l := rfl
attribute [go_sem] kt_sha_Words_j1
theorem kt_sha_Words_k0 (l : List AV) : keepT i_sha_Words_k0 l = keepT [false, false, false, false, true, false, false, false, false, false, false, false, false, false, false, false, false, true, true, true, false, false, false, false, false, false, false, false, false, false, false, false, false, false, false, false, false, false, false, false, false, false, false, false, false, false, false, false, false, false, false, false, false, false, false, false, false, false, false, false, false, false, false, false, false, false, false, false, false, false, false, false, false, false, false, false, false, false, false, false, false, false, false, false, false, false, false] l := rfl
attribute [go_sem] kt_sha_Words_k0
theorem kt_sha_Words_j0 (l : List AV) : keepT i_sha_Words_j0 l = keepT [false, false, false, false, true, false, false, false, false, false, false, false, false, false, false, false, false, false, false, false, false, false, false, false, false, false, false, false, false, false, false, false, false, false, false, false, false, false, false, false, false, false, false, false, false, false, false, false, false, false, false, false, false, false, false, false, false, false, false, false, false, false, false, false, false, false, false, false, false, false, false, false, false, false, false, false, false, false, false, false, false, false, false, false, false, false, false] l := rfl
attribute [go_sem] kt_sha_Words_j0
theorem kt_sha_Words_j3 (l : List AV) : keepT i_sha_Words_j3 l = keepT [false, false, false, false, true, false, false, true, false, false, false, false, false, false, false, false, false, false, false, false, false, false, false, false, false, false, false, false, false, false, false, false, false, false, false, false, false, false, false, false, false, false, false, false, false, false, false, false, false, false, false, false, false, false, false, false, false, false, false, false, false, false, false, false, false, false, false, false, false, false, false, false, false, false, false, false, false, false, false, false, false, false, false, false, false, false, false] l := rfl
attribute [go_sem] kt_sha_Words_j3
theorem kt_sha_Words_k1 (l : List AV) : keepT i_sha_Words_k1 l = keepT [false, false, false, false, true, false, false, true, false, false, false, false, false, false, false, false, false, false, false, false, false, false, false, false, false, false, false, false, false, false, false, false, false, false, false, false, false, false, false, false, false, false, false, false, false, false, false, false, false, false, false, false, false, false, false, false, false, false, false, false, false, false, false, false, false, false, false, false, false, false, false, false, false, false, false, false, false, false, false, false, false, false, false, false, false, false, false] l := rfl
attribute [go_sem] kt_sha_Words_k1
theorem kt_sha_Words_j2 (l : List AV) : keepT i_sha_Words_j2 l = keepT [false, false, false, false, true, false, false, false, false, false, false, false, false, false, false, false, false, false, false, false, false, false, false, false, false, false, false, false, false, false, false, false, false, false, false, false, false, false, false, false, false, false, false, false, false, false, false, false, false, false, false, false, false, false, false, false, false, false, false, false, false, false, false, false, false, false, false, false, false, false, false, false, false, false, false, false, false, false, false, false, false, false, false, false, false, false, false] l := rfl
attribute [go_sem] kt_sha_Words_j2
theorem kt_math_bits_RotateLeft32_r (l : List AV) : keepT i_math_bits_RotateLeft32_r l = keepT [false, false, false, false, true, false, false, false, false, false, false, false, false, false, false, false, false] l := rfl
attribute [go_sem] kt_math_bits_RotateLeft32_r
theorem kt_sha_Round_r (l : List AV) : keepT i_sha_Round_r l = keepT [false, false, false, false, false, false, true, false, false, false, false, false, false, false, false, false, false, false, false, false, false, false, false, false, false, false, false, false, false, false, false, false, false, false, false, false, false, false, false, false, false, false, false, false, false, false, false, false, false, false, false, false, false, false, false, false, false, false, false, false, false, false, false, false, false, false, false, false, false, false, false, false, false, false, false, false, false, false, false, false, false, false, false, false, false] l := rfl
attribute [go_sem] kt_sha_Round_r
noncomputable def L_law01_ShaStays_0 (st : St) : Option (Ex × St) := lp tab G0 5 i_law01_ShaStays_k0 i_law01_ShaStays_b0 st
theorem L_law01_ShaStays_0_eq (st : St) : L_law01_ShaStays_0 st = againL L_law01_ShaStays_0 5 i_law01_ShaStays_k0 (app tab G0 5 [] (ex tab G0 5 i_law01_ShaStays_b0 st)) := lp_eq tab G0 5 i_law01_ShaStays_k0 i_law01_ShaStays_b0 st
theorem L_law01_ShaStays_0_in (K : List Fr) (st : St) : app tab G0 5 K (ex tab G0 5 (.loop i_law01_ShaStays_k0 i_law01_ShaStays_b0) st) = app tab G0 5 K (L_law01_ShaStays_0 (clean 5 i_law01_ShaStays_k0 st)) := rfl
attribute [go_sem] L_law01_ShaStays_0_in
noncomputable def L_law01_ShaStays_1 (st : St) : Option (Ex × St) := lp tab G0 5 i_law01_ShaStays_k1 i_law01_ShaStays_b1 st
theorem L_law01_ShaStays_1_eq (st : St) : L_law01_ShaStays_1 st = againL L_law01_ShaStays_1 5 i_law01_ShaStays_k1 (app tab G0 5 [] (ex tab G0 5 i_law01_ShaStays_b1 st)) := lp_eq tab G0 5 i_law01_ShaStays_k1 i_law01_ShaStays_b1 st
theorem L_law01_ShaStays_1_in (K : List Fr) (st : St) : app tab G0 5 K (ex tab G0 5 (.loop i_law01_ShaStays_k1 i_law01_ShaStays_b1) st) = app tab G0 5 K (L_law01_ShaStays_1 (clean 5 i_law01_ShaStays_k1 st)) := rfl
attribute [go_sem] L_law01_ShaStays_1_in
noncomputable def L_law01_ShaStays_2 (st : St) : Option (Ex × St) := lp tab G0 5 i_law01_ShaStays_k2 i_law01_ShaStays_b2 st
theorem L_law01_ShaStays_2_eq (st : St) : L_law01_ShaStays_2 st = againL L_law01_ShaStays_2 5 i_law01_ShaStays_k2 (app tab G0 5 [] (ex tab G0 5 i_law01_ShaStays_b2 st)) := lp_eq tab G0 5 i_law01_ShaStays_k2 i_law01_ShaStays_b2 st
theorem L_law01_ShaStays_2_in (K : List Fr) (st : St) : app tab G0 5 K (ex tab G0 5 (.loop i_law01_ShaStays_k2 i_law01_ShaStays_b2) st) = app tab G0 5 K (L_law01_ShaStays_2 (clean 5 i_law01_ShaStays_k2 st)) := rfl
attribute [go_sem] L_law01_ShaStays_2_in
noncomputable def L_sha_Sum_1 (st : St) : Option (Ex × St) := lp tab G0 3 i_sha_Sum_k1 i_sha_Sum_b1 st
theorem L_sha_Sum_1_eq (st : St) : L_sha_Sum_1 st = againL L_sha_Sum_1 3 i_sha_Sum_k1 (app tab G0 3 [] (ex tab G0 3 i_sha_Sum_b1 st)) := lp_eq tab G0 3 i_sha_Sum_k1 i_sha_Sum_b1 st
theorem L_sha_Sum_1_in (K : List Fr) (st : St) : app tab G0 3 K (ex tab G0 3 (.loop i_sha_Sum_k1 i_sha_Sum_b1) st) = app tab G0 3 K (L_sha_Sum_1 (clean 3 i_sha_Sum_k1 st)) := rfl
attribute [go_sem] L_sha_Sum_1_in
noncomputable def L_sha_Sum_0 (st : St) : Option (Ex × St) := lp tab G0 3 i_sha_Sum_k0 i_sha_Sum_b0 st
theorem L_sha_Sum_0_eq (st : St) : L_sha_Sum_0 st = againL L_sha_Sum_0 3 i_sha_Sum_k0 (app tab G0 3 [] (ex tab G0 3 i_sha_Sum_b0 st)) := lp_eq tab G0 3 i_sha_Sum_k0 i_sha_Sum_b0 st
theorem L_sha_Sum_0_in (K : List Fr) (st : St) : app tab G0 3 K (ex tab G0 3 (.loop i_sha_Sum_k0 i_sha_Sum_b0) st) = app tab G0 3 K (L_sha_Sum_0 (clean 3 i_sha_Sum_k0 st)) := rfl
attribute [go_sem] L_sha_Sum_0_in
noncomputable def L_sha_Sum_2 (st : St) : Option (Ex × St) := lp tab G0 3 i_sha_Sum_k2 i_sha_Sum_b2 st
theorem L_sha_Sum_2_eq (st : St) : L_sha_Sum_2 st = againL L_sha_Sum_2 3 i_sha_Sum_k2 (app tab G0 3 [] (ex tab G0 3 i_sha_Sum_b2 st)) := lp_eq tab G0 3 i_sha_Sum_k2 i_sha_Sum_b2 st
theorem L_sha_Sum_2_in (K : List Fr) (st : St) : app tab G0 3 K (ex tab G0 3 (.loop i_sha_Sum_k2 i_sha_Sum_b2) st) = app tab G0 3 K (L_sha_Sum_2 (clean 3 i_sha_Sum_k2 st)) := rfl
attribute [go_sem] L_sha_Sum_2_in
noncomputable def L_sha_Tail_0 (st : St) : Option (Ex × St) := lp tab G0 1 i_sha_Tail_k0 i_sha_Tail_b0 st
theorem L_sha_Tail_0_eq (st : St) : L_sha_Tail_0 st = againL L_sha_Tail_0 1 i_sha_Tail_k0 (app tab G0 1 [] (ex tab G0 1 i_sha_Tail_b0 st)) := lp_eq tab G0 1 i_sha_Tail_k0 i_sha_Tail_b0 st
theorem L_sha_Tail_0_in (K : List Fr) (st : St) : app tab G0 1 K (ex tab G0 1 (.loop i_sha_Tail_k0 i_sha_Tail_b0) st) = app tab G0 1 K (L_sha_Tail_0 (clean 1 i_sha_Tail_k0 st)) := rfl
attribute [go_sem] L_sha_Tail_0_in
noncomputable def L_sha_Tail_1 (st : St) : Option (Ex × St) := lp tab G0 1 i_sha_Tail_k1 i_sha_Tail_b1 st
theorem L_sha_Tail_1_eq (st : St) : L_sha_Tail_1 st = againL L_sha_Tail_1 1 i_sha_Tail_k1 (app tab G0 1 [] (ex tab G0 1 i_sha_Tail_b1 st)) := lp_eq tab G0 1 i_sha_Tail_k1 i_sha_Tail_b1 st
theorem L_sha_Tail_1_in (K : List Fr) (st : St) : app tab G0 1 K (ex tab G0 1 (.loop i_sha_Tail_k1 i_sha_Tail_b1) st) = app tab G0 1 K (L_sha_Tail_1 (clean 1 i_sha_Tail_k1 st)) := rfl
attribute [go_sem] L_sha_Tail_1_in
noncomputable def L_sha_Step_0 (st : St) : Option (Ex × St) := lp tab G0 3 i_sha_Step_k0 i_sha_Step_b0 st
theorem L_sha_Step_0_eq (st : St) : L_sha_Step_0 st = againL L_sha_Step_0 3 i_sha_Step_k0 (app tab G0 3 [] (ex tab G0 3 i_sha_Step_b0 st)) := lp_eq tab G0 3 i_sha_Step_k0 i_sha_Step_b0 st
theorem L_sha_Step_0_in (K : List Fr) (st : St) : app tab G0 3 K (ex tab G0 3 (.loop i_sha_Step_k0 i_sha_Step_b0) st) = app tab G0 3 K (L_sha_Step_0 (clean 3 i_sha_Step_k0 st)) := rfl
attribute [go_sem] L_sha_Step_0_in
noncomputable def L_sha_Step_1 (st : St) : Option (Ex × St) := lp tab G0 3 i_sha_Step_k1 i_sha_Step_b1 st
theorem L_sha_Step_1_eq (st : St) : L_sha_Step_1 st = againL L_sha_Step_1 3 i_sha_Step_k1 (app tab G0 3 [] (ex tab G0 3 i_sha_Step_b1 st)) := lp_eq tab G0 3 i_sha_Step_k1 i_sha_Step_b1 st
theorem L_sha_Step_1_in (K : List Fr) (st : St) : app tab G0 3 K (ex tab G0 3 (.loop i_sha_Step_k1 i_sha_Step_b1) st) = app tab G0 3 K (L_sha_Step_1 (clean 3 i_sha_Step_k1 st)) := rfl
attribute [go_sem] L_sha_Step_1_in
noncomputable def L_sha_Words_0 (st : St) : Option (Ex × St) := lp tab G0 1 i_sha_Words_k0 i_sha_Words_b0 st
theorem L_sha_Words_0_eq (st : St) : L_sha_Words_0 st = againL L_sha_Words_0 1 i_sha_Words_k0 (app tab G0 1 [] (ex tab G0 1 i_sha_Words_b0 st)) := lp_eq tab G0 1 i_sha_Words_k0 i_sha_Words_b0 st
theorem L_sha_Words_0_in (K : List Fr) (st : St) : app tab G0 1 K (ex tab G0 1 (.loop i_sha_Words_k0 i_sha_Words_b0) st) = app tab G0 1 K (L_sha_Words_0 (clean 1 i_sha_Words_k0 st)) := rfl
attribute [go_sem] L_sha_Words_0_in
noncomputable def L_sha_Words_1 (st : St) : Option (Ex × St) := lp tab G0 1 i_sha_Words_k1 i_sha_Words_b1 st
theorem L_sha_Words_1_eq (st : St) : L_sha_Words_1 st = againL L_sha_Words_1 1 i_sha_Words_k1 (app tab G0 1 [] (ex tab G0 1 i_sha_Words_b1 st)) := lp_eq tab G0 1 i_sha_Words_k1 i_sha_Words_b1 st
theorem L_sha_Words_1_in (K : List Fr) (st : St) : app tab G0 1 K (ex tab G0 1 (.loop i_sha_Words_k1 i_sha_Words_b1) st) = app tab G0 1 K (L_sha_Words_1 (clean 1 i_sha_Words_k1 st)) := rfl
attribute [go_sem] L_sha_Words_1_in
end Go.Proofs.YthaegfemlhibfaaDoor
