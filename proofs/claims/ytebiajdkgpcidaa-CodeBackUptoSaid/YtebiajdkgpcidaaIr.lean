/- The IR of the seat's functions, printed by a program of this session. -/
import Derived.Test.YtebiajdkgpcidaaIrP0
set_option linter.unusedVariables false
namespace Go.Proofs.Ytebiajdkgpcidaa
open Go.Ev

def i_ref02_Reader_Number_r : List Bool := [false, false, true, false, false, false, false, false, false, false, false, false, false, false, false, false, false, false, false, false, false, false, false, false, false, false, false, false, false, false, false, false, false, false, false, false, false, false, false, false, false, false, false, false, false, false, false, false, false, false, false, false, false, false, false, false, false, false, false, false, false, false, false, false, false, false, false, false, false, false, false, false, false, false, false, false, false, false, false, false, false, false, false, false, false, false]
def i_ref02_Reader_Number_j1 : List Bool := [true, false, false, false, true, true, true, false, false, false, false, false, false, false, false, false, false, false, false, false, false, false, false, false, false, false, false, false, false, false, false, false, false, false, false, false, false, false, false, false, false, false, false, false, false, false, false, false, false, false, false, false, false, false, false, false, false, false, false, false, false, false, false, false, false, false, false, false, false, false, false, false, false, false, false, false, false, false, false, false, false, false, false, false, false, false]
def i_ref02_Reader_Number_k0 : List Bool := [true, false, false, false, true, true, true, false, false, false, false, false, false, false, false, false, false, false, false, false, false, false, false, false, false, false, false, false, false, false, false, false, false, false, false, false, false, false, false, false, false, false, false, false, false, false, false, false, false, false, false, false, false, false, false, false, false, false, false, false, false, false, false, false, false, false, false, false, false, false, false, false, false, false, false, false, false, false, false, false, false, false, false, false, false, false]
def i_ref02_Reader_Number_j0 : List Bool := [true, false, false, false, true, true, false, false, false, false, false, false, false, false, false, false, false, false, false, false, false, false, false, false, false, false, false, false, false, false, false, false, false, false, false, false, false, false, false, false, false, false, false, false, false, false, false, false, false, false, false, false, false, false, false, false, false, false, false, false, false, false, false, false, false, false, false, false, false, false, false, false, false, false, false, false, false, false, false, false, false, false, false, false, false, false]
abbrev s_ref02_Reader_Number_R (t2 : AV) (h : Heap) : St := ⟨[.undef, .undef, t2, .undef, .undef, .undef, .undef, .undef, .undef, .undef, .undef, .undef, .undef, .undef, .undef, .undef, .undef, .undef, .undef, .undef, .undef, .undef, .undef, .undef, .undef, .undef, .undef, .undef, .undef, .undef, .undef, .undef, .undef, .undef, .undef, .undef, .undef, .undef, .undef, .undef, .undef, .undef, .undef, .undef, .undef, .undef, .undef, .undef, .undef, .undef, .undef, .undef, .undef, .undef, .undef, .undef, .undef, .undef, .undef, .undef, .undef, .undef, .undef, .undef, .undef, .undef, .undef, .undef, .undef, .undef, .undef, .undef, .undef, .undef, .undef, .undef, .undef, .undef, .undef, .undef, .undef, .undef, .undef, .undef, .undef, .undef], h⟩
abbrev s_ref02_Reader_Number_K0 (t0 t4 t5 t6 : AV) (h : Heap) : St := ⟨[t0, .undef, .undef, .undef, t4, t5, t6, .undef, .undef, .undef, .undef, .undef, .undef, .undef, .undef, .undef, .undef, .undef, .undef, .undef, .undef, .undef, .undef, .undef, .undef, .undef, .undef, .undef, .undef, .undef, .undef, .undef, .undef, .undef, .undef, .undef, .undef, .undef, .undef, .undef, .undef, .undef, .undef, .undef, .undef, .undef, .undef, .undef, .undef, .undef, .undef, .undef, .undef, .undef, .undef, .undef, .undef, .undef, .undef, .undef, .undef, .undef, .undef, .undef, .undef, .undef, .undef, .undef, .undef, .undef, .undef, .undef, .undef, .undef, .undef, .undef, .undef, .undef, .undef, .undef, .undef, .undef, .undef, .undef, .undef, .undef], h⟩
def i_ref02_Reader_Number_b0 : IR :=
  (.seq
   (.seq
    (.reg [] [
      ⟨(some 37), .mv (.t 6), none, []⟩,
      ⟨(some 38), .mv (.t 4), none, []⟩,
      ⟨(some 39), .bin .plain .lss (.t 37) (.t 38), none, []⟩])
    (.cond (.t 39)
     .skip
     (.exit 0 i_ref02_Reader_Number_j0)))
   (.seq
    (.block 1 i_ref02_Reader_Number_j1
     (.reg [] [
       ⟨(some 42), .mv (.t 5), none, []⟩,
       ⟨(some 43), .bin .plain .mul (.k (.int .u64 256)) (.t 42), none, []⟩,
       ⟨(some 44), .mv (.t 0), none, []⟩,
       ⟨(some 45), .nilc (.t 44), none, []⟩,
       ⟨(some 46), .fa 0 (.t 45), none, []⟩,
       ⟨(some 47), .load false 1 (.t 46), none, []⟩,
       ⟨(some 48), .mv (.t 0), none, []⟩,
       ⟨(some 49), .nilc (.t 48), none, []⟩,
       ⟨(some 50), .fa 1 (.t 49), none, []⟩,
       ⟨(some 51), .load false 1 (.t 50), none, []⟩,
       ⟨(some 52), .mv (.t 6), none, []⟩,
       ⟨(some 53), .bin .plain .add (.t 51) (.t 52), none, []⟩,
       ⟨(some 54), .ia 1 (.t 47) (.t 53), none, []⟩,
       ⟨(some 55), .load false 1 (.t 54), none, []⟩,
       ⟨(some 56), .conv .u64 (.t 55), none, []⟩,
       ⟨(some 57), .bin .plain .add (.t 43) (.t 56), none, []⟩,
       ⟨(some 5), .mv (.t 57), none, []⟩]))
    (.reg [] [
      ⟨(some 40), .mv (.t 6), none, []⟩,
      ⟨(some 41), .bin .plain .add (.t 40) (.k (.int .i64 1)), none, []⟩,
      ⟨(some 6), .mv (.t 41), none, []⟩])))

abbrev s_ref02_Reader_Number_J0 (t0 t4 t5 : AV) (h : Heap) : St := ⟨[t0, .undef, .undef, .undef, t4, t5, .undef, .undef, .undef, .undef, .undef, .undef, .undef, .undef, .undef, .undef, .undef, .undef, .undef, .undef, .undef, .undef, .undef, .undef, .undef, .undef, .undef, .undef, .undef, .undef, .undef, .undef, .undef, .undef, .undef, .undef, .undef, .undef, .undef, .undef, .undef, .undef, .undef, .undef, .undef, .undef, .undef, .undef, .undef, .undef, .undef, .undef, .undef, .undef, .undef, .undef, .undef, .undef, .undef, .undef, .undef, .undef, .undef, .undef, .undef, .undef, .undef, .undef, .undef, .undef, .undef, .undef, .undef, .undef, .undef, .undef, .undef, .undef, .undef, .undef, .undef, .undef, .undef, .undef, .undef, .undef], h⟩
/-- (*heartwood/heartwoodref02.Reader).Number -/
def i_ref02_Reader_Number : Ev.Fn := ⟨1, 86, 0,
  (.seq
   (.reg [] [
     ⟨(some 2), .mv (.k (.int .u64 0)), none, []⟩])
   (.seq
    (.reg [] [
      ⟨(some 7), .mv (.t 0), none, []⟩,
      ⟨(some 8), .call n_ref02_Reader_Byte [(.t 7)] [], none, []⟩,
      ⟨(some 3), .mv (.t 8), none, []⟩])
    (.seq
     (.seq
      (.reg [] [
        ⟨(some 9), .mv (.t 0), none, []⟩,
        ⟨(some 10), .nilc (.t 9), none, []⟩,
        ⟨(some 11), .fa 2 (.t 10), none, []⟩,
        ⟨(some 12), .load false 1 (.t 11), none, []⟩,
        ⟨(some 13), .mv (.t 12), none, []⟩,
        ⟨(some 14), .mv (.t 3), (some (13, false)), []⟩,
        ⟨(some 15), .bin .plain .lss (.t 14) (.k (.int .u8 248)), (some (13, false)), []⟩,
        ⟨(some 16), .pick (.t 13) (.k (.bool true)) (.t 15), none, []⟩])
      (.cond (.t 16)
       (.seq
        (.reg [] [
          ⟨(some 17), .mv (.t 3), none, []⟩,
          ⟨(some 18), .conv .u64 (.t 17), none, []⟩,
          ⟨(some 2), .mv (.t 18), none, []⟩])
        (.ret i_ref02_Reader_Number_r))
       .skip))
     (.seq
      (.reg [] [
        ⟨(some 19), .mv (.t 3), none, []⟩,
        ⟨(some 20), .conv .i64 (.t 19), none, []⟩,
        ⟨(some 21), .bin .plain .sub (.t 20) (.k (.int .i64 247)), none, []⟩,
        ⟨(some 4), .mv (.t 21), none, []⟩])
      (.seq
       (.seq
        (.reg [] [
          ⟨(some 22), .mv (.t 0), none, []⟩,
          ⟨(some 23), .nilc (.t 22), none, []⟩,
          ⟨(some 24), .fa 0 (.t 23), none, []⟩,
          ⟨(some 25), .load false 1 (.t 24), none, []⟩,
          ⟨(some 26), .len false (.t 25), none, []⟩,
          ⟨(some 27), .mv (.t 0), none, []⟩,
          ⟨(some 28), .nilc (.t 27), none, []⟩,
          ⟨(some 29), .fa 1 (.t 28), none, []⟩,
          ⟨(some 30), .load false 1 (.t 29), none, []⟩,
          ⟨(some 31), .bin .plain .sub (.t 26) (.t 30), none, []⟩,
          ⟨(some 32), .mv (.t 4), none, []⟩,
          ⟨(some 33), .bin .plain .lss (.t 31) (.t 32), none, []⟩])
        (.cond (.t 33)
         (.seq
          (.reg [] [
            ⟨(some 34), .mv (.t 0), none, []⟩,
            ⟨(some 35), .nilc (.t 34), none, []⟩,
            ⟨(some 36), .fa 2 (.t 35), none, []⟩,
            ⟨none, .store 1 (.t 36) (.k (.bool true)), none, []⟩])
          (.seq
           (.reg [] [
             ⟨(some 2), .mv (.k (.int .u64 0)), none, []⟩])
           (.ret i_ref02_Reader_Number_r)))
         .skip))
       (.seq
        (.reg [] [
          ⟨(some 5), .mv (.k (.int .u64 0)), none, []⟩])
        (.seq
         (.seq
          (.reg [] [
            ⟨(some 6), .mv (.k (.int .i64 0)), none, []⟩])
          (.block 0 i_ref02_Reader_Number_j0
           (.loop i_ref02_Reader_Number_k0 i_ref02_Reader_Number_b0)))
         (.seq
          (.seq
           (.reg [] [
             ⟨(some 58), .mv (.t 0), none, []⟩,
             ⟨(some 59), .nilc (.t 58), none, []⟩,
             ⟨(some 60), .fa 0 (.t 59), none, []⟩,
             ⟨(some 61), .load false 1 (.t 60), none, []⟩,
             ⟨(some 62), .mv (.t 0), none, []⟩,
             ⟨(some 63), .nilc (.t 62), none, []⟩,
             ⟨(some 64), .fa 1 (.t 63), none, []⟩,
             ⟨(some 65), .load false 1 (.t 64), none, []⟩,
             ⟨(some 66), .ia 1 (.t 61) (.t 65), none, []⟩,
             ⟨(some 67), .load false 1 (.t 66), none, []⟩,
             ⟨(some 68), .bin .plain .eql (.t 67) (.k (.int .u8 0)), none, []⟩,
             ⟨(some 69), .mv (.t 68), none, []⟩,
             ⟨(some 70), .mv (.t 5), (some (69, false)), []⟩,
             ⟨(some 71), .bin .plain .lss (.t 70) (.k (.int .u64 248)), (some (69, false)), []⟩,
             ⟨(some 72), .pick (.t 69) (.k (.bool true)) (.t 71), none, []⟩])
           (.cond (.t 72)
            (.seq
             (.reg [] [
               ⟨(some 73), .mv (.t 0), none, []⟩,
               ⟨(some 74), .nilc (.t 73), none, []⟩,
               ⟨(some 75), .fa 2 (.t 74), none, []⟩,
               ⟨none, .store 1 (.t 75) (.k (.bool true)), none, []⟩])
             (.seq
              (.reg [] [
                ⟨(some 2), .mv (.k (.int .u64 0)), none, []⟩])
              (.ret i_ref02_Reader_Number_r)))
            .skip))
          (.seq
           (.reg [] [
             ⟨(some 76), .mv (.t 0), none, []⟩,
             ⟨(some 77), .mv (.t 0), none, []⟩,
             ⟨(some 78), .nilc (.t 77), none, []⟩,
             ⟨(some 79), .fa 1 (.t 78), none, []⟩,
             ⟨(some 80), .load false 1 (.t 79), none, []⟩,
             ⟨(some 81), .mv (.t 4), none, []⟩,
             ⟨(some 82), .bin .plain .add (.t 80) (.t 81), none, []⟩,
             ⟨(some 83), .nilc (.t 76), none, []⟩,
             ⟨(some 84), .fa 1 (.t 83), none, []⟩,
             ⟨none, .store 1 (.t 84) (.t 82), none, []⟩])
           (.seq
            (.reg [] [
              ⟨(some 85), .mv (.t 5), none, []⟩,
              ⟨(some 2), .mv (.t 85), none, []⟩])
            (.ret i_ref02_Reader_Number_r))))))))))),
  [.tmp 2], [], false, []⟩

def i_ref02_Reader_End_r : List Bool := [false, false, true, false, false, false, false, false, false, false, false, false, false, false, false, false, false]
/-- (*heartwood/heartwoodref02.Reader).End -/
def i_ref02_Reader_End : Ev.Fn := ⟨1, 17, 0,
  (.seq
   (.reg [] [
     ⟨(some 2), .mv (.k (.int .i64 0)), none, []⟩])
   (.seq
    (.seq
     (.reg [] [
       ⟨(some 3), .mv (.t 0), none, []⟩,
       ⟨(some 4), .nilc (.t 3), none, []⟩,
       ⟨(some 5), .fa 2 (.t 4), none, []⟩,
       ⟨(some 6), .load false 1 (.t 5), none, []⟩])
     (.cond (.t 6)
      (.seq
       (.reg [] [
         ⟨(some 2), .mv (.k (.int .i64 3)), none, []⟩])
       (.ret i_ref02_Reader_End_r))
      .skip))
    (.seq
     (.seq
      (.reg [] [
        ⟨(some 7), .mv (.t 0), none, []⟩,
        ⟨(some 8), .nilc (.t 7), none, []⟩,
        ⟨(some 9), .fa 1 (.t 8), none, []⟩,
        ⟨(some 10), .load false 1 (.t 9), none, []⟩,
        ⟨(some 11), .mv (.t 0), none, []⟩,
        ⟨(some 12), .nilc (.t 11), none, []⟩,
        ⟨(some 13), .fa 0 (.t 12), none, []⟩,
        ⟨(some 14), .load false 1 (.t 13), none, []⟩,
        ⟨(some 15), .len false (.t 14), none, []⟩,
        ⟨(some 16), .bin .plain .lss (.t 10) (.t 15), none, []⟩])
      (.cond (.t 16)
       (.seq
        (.reg [] [
          ⟨(some 2), .mv (.k (.int .i64 4)), none, []⟩])
        (.ret i_ref02_Reader_End_r))
       .skip))
     (.seq
      (.reg [] [
        ⟨(some 2), .mv (.k (.int .i64 0)), none, []⟩])
      (.ret i_ref02_Reader_End_r))))),
  [.tmp 2], [], false, []⟩

def i_ref04_Same_r : List Bool := [false, false, false, false, true, false, false, false, false, false, false, false, false, false, false, false, false, false, false, false, false, false, false, false, false, false, false, false, false, false, false, false, false, false, false, false, false, false, false, false, false, false, false, false, false, false, false, false, false, false, false, false, false, false, false, false, false, false, false, false, false, false, false, false, false, false, false, false]
def i_ref04_Same_j1 : List Bool := [false, false, true, true, false, true, false, false, false, false, false, false, false, false, false, false, false, false, false, false, false, false, false, false, false, false, false, false, false, false, false, false, false, false, false, false, false, false, false, false, false, false, false, false, false, false, false, false, false, false, false, false, false, false, false, false, false, false, false, false, false, false, false, false, false, false, false, false]
def i_ref04_Same_k0 : List Bool := [false, false, true, true, false, true, false, false, false, false, false, false, false, false, false, false, false, false, false, false, false, false, false, false, false, false, false, false, false, false, false, false, false, false, false, false, false, false, false, false, false, false, false, false, false, false, false, false, false, false, false, false, false, false, false, false, false, false, false, false, false, false, false, false, false, false, false, false]
def i_ref04_Same_j0 : List Bool := [false, false, false, false, false, false, false, false, false, false, false, false, false, false, false, false, false, false, false, false, false, false, false, false, false, false, false, false, false, false, false, false, false, false, false, false, false, false, false, false, false, false, false, false, false, false, false, false, false, false, false, false, false, false, false, false, false, false, false, false, false, false, false, false, false, false, false, false]
abbrev s_ref04_Same_R (t4 : AV) (h : Heap) : St := ⟨[.undef, .undef, .undef, .undef, t4, .undef, .undef, .undef, .undef, .undef, .undef, .undef, .undef, .undef, .undef, .undef, .undef, .undef, .undef, .undef, .undef, .undef, .undef, .undef, .undef, .undef, .undef, .undef, .undef, .undef, .undef, .undef, .undef, .undef, .undef, .undef, .undef, .undef, .undef, .undef, .undef, .undef, .undef, .undef, .undef, .undef, .undef, .undef, .undef, .undef, .undef, .undef, .undef, .undef, .undef, .undef, .undef, .undef, .undef, .undef, .undef, .undef, .undef, .undef, .undef, .undef, .undef, .undef], h⟩
abbrev s_ref04_Same_K0 (t2 t3 t5 : AV) (h : Heap) : St := ⟨[.undef, .undef, t2, t3, .undef, t5, .undef, .undef, .undef, .undef, .undef, .undef, .undef, .undef, .undef, .undef, .undef, .undef, .undef, .undef, .undef, .undef, .undef, .undef, .undef, .undef, .undef, .undef, .undef, .undef, .undef, .undef, .undef, .undef, .undef, .undef, .undef, .undef, .undef, .undef, .undef, .undef, .undef, .undef, .undef, .undef, .undef, .undef, .undef, .undef, .undef, .undef, .undef, .undef, .undef, .undef, .undef, .undef, .undef, .undef, .undef, .undef, .undef, .undef, .undef, .undef, .undef, .undef], h⟩
def i_ref04_Same_b0 : IR :=
  (.seq
   (.seq
    (.reg [] [
      ⟨(some 48), .mv (.t 5), none, []⟩,
      ⟨(some 49), .fa 4 (.t 2), none, []⟩,
      ⟨(some 50), .load false 1 (.t 49), none, []⟩,
      ⟨(some 51), .len false (.t 50), none, []⟩,
      ⟨(some 52), .bin .plain .lss (.t 48) (.t 51), none, []⟩])
    (.cond (.t 52)
     .skip
     (.exit 0 i_ref04_Same_j0)))
   (.seq
    (.block 1 i_ref04_Same_j1
     (.seq
      (.reg [] [
        ⟨(some 55), .fa 4 (.t 2), none, []⟩,
        ⟨(some 56), .load false 1 (.t 55), none, []⟩,
        ⟨(some 57), .mv (.t 5), none, []⟩,
        ⟨(some 58), .ia 5 (.t 56) (.t 57), none, []⟩,
        ⟨(some 59), .load true 5 (.t 58), none, []⟩,
        ⟨(some 60), .fa 4 (.t 3), none, []⟩,
        ⟨(some 61), .load false 1 (.t 60), none, []⟩,
        ⟨(some 62), .mv (.t 5), none, []⟩,
        ⟨(some 63), .ia 5 (.t 61) (.t 62), none, []⟩,
        ⟨(some 64), .load true 5 (.t 63), none, []⟩,
        ⟨(some 65), .qcall n_ref04_Same [(.t 59), (.t 64)] [], none, []⟩,
        ⟨(some 6), .mv (.t 65), none, []⟩])
      (.seq
       (.reg [] [
         ⟨(some 66), .mv (.t 6), none, []⟩,
         ⟨(some 67), .un .not (.t 66), none, []⟩])
       (.cond (.t 67)
        (.seq
         (.reg [] [
           ⟨(some 4), .mv (.k (.bool false)), none, []⟩])
         (.ret i_ref04_Same_r))
        .skip))))
    (.reg [] [
      ⟨(some 53), .mv (.t 5), none, []⟩,
      ⟨(some 54), .bin .plain .add (.t 53) (.k (.int .i64 1)), none, []⟩,
      ⟨(some 5), .mv (.t 54), none, []⟩])))

abbrev s_ref04_Same_J0 (h : Heap) : St := ⟨[.undef, .undef, .undef, .undef, .undef, .undef, .undef, .undef, .undef, .undef, .undef, .undef, .undef, .undef, .undef, .undef, .undef, .undef, .undef, .undef, .undef, .undef, .undef, .undef, .undef, .undef, .undef, .undef, .undef, .undef, .undef, .undef, .undef, .undef, .undef, .undef, .undef, .undef, .undef, .undef, .undef, .undef, .undef, .undef, .undef, .undef, .undef, .undef, .undef, .undef, .undef, .undef, .undef, .undef, .undef, .undef, .undef, .undef, .undef, .undef, .undef, .undef, .undef, .undef, .undef, .undef, .undef, .undef], h⟩
/-- heartwood/heartwoodref04.Same -/
def i_ref04_Same : Ev.Fn := ⟨2, 68, 2,
  (.seq
   (.reg [] [
     ⟨(some 2), .box 0 5 (.t 0), none, []⟩,
     ⟨(some 3), .box 1 5 (.t 1), none, []⟩,
     ⟨(some 4), .mv (.k (.bool false)), none, []⟩])
   (.seq
    (.seq
     (.reg [] [
       ⟨(some 7), .fa 0 (.t 2), none, []⟩,
       ⟨(some 8), .load false 1 (.t 7), none, []⟩,
       ⟨(some 9), .fa 0 (.t 3), none, []⟩,
       ⟨(some 10), .load false 1 (.t 9), none, []⟩,
       ⟨(some 11), .bin .plain .neq (.t 8) (.t 10), none, []⟩,
       ⟨(some 12), .mv (.t 11), none, []⟩,
       ⟨(some 13), .fa 1 (.t 2), (some (12, false)), []⟩,
       ⟨(some 14), .load false 1 (.t 13), (some (12, false)), []⟩,
       ⟨(some 15), .b2s (.t 14), (some (12, false)), []⟩,
       ⟨(some 16), .fa 1 (.t 3), (some (12, false)), []⟩,
       ⟨(some 17), .load false 1 (.t 16), (some (12, false)), []⟩,
       ⟨(some 18), .b2s (.t 17), (some (12, false)), []⟩,
       ⟨(some 19), .bin .plain .neq (.t 15) (.t 18), (some (12, false)), []⟩,
       ⟨(some 20), .pick (.t 12) (.k (.bool true)) (.t 19), none, []⟩,
       ⟨(some 21), .mv (.t 20), none, []⟩,
       ⟨(some 22), .fa 2 (.t 2), (some (21, false)), []⟩,
       ⟨(some 23), .load false 1 (.t 22), (some (21, false)), []⟩,
       ⟨(some 24), .b2s (.t 23), (some (21, false)), []⟩,
       ⟨(some 25), .fa 2 (.t 3), (some (21, false)), []⟩,
       ⟨(some 26), .load false 1 (.t 25), (some (21, false)), []⟩,
       ⟨(some 27), .b2s (.t 26), (some (21, false)), []⟩,
       ⟨(some 28), .bin .plain .neq (.t 24) (.t 27), (some (21, false)), []⟩,
       ⟨(some 29), .pick (.t 21) (.k (.bool true)) (.t 28), none, []⟩,
       ⟨(some 30), .mv (.t 29), none, []⟩,
       ⟨(some 31), .fa 3 (.t 2), (some (30, false)), []⟩,
       ⟨(some 32), .load false 1 (.t 31), (some (30, false)), []⟩,
       ⟨(some 33), .b2s (.t 32), (some (30, false)), []⟩,
       ⟨(some 34), .fa 3 (.t 3), (some (30, false)), []⟩,
       ⟨(some 35), .load false 1 (.t 34), (some (30, false)), []⟩,
       ⟨(some 36), .b2s (.t 35), (some (30, false)), []⟩,
       ⟨(some 37), .bin .plain .neq (.t 33) (.t 36), (some (30, false)), []⟩,
       ⟨(some 38), .pick (.t 30) (.k (.bool true)) (.t 37), none, []⟩,
       ⟨(some 39), .mv (.t 38), none, []⟩,
       ⟨(some 40), .fa 4 (.t 2), (some (39, false)), []⟩,
       ⟨(some 41), .load false 1 (.t 40), (some (39, false)), []⟩,
       ⟨(some 42), .len false (.t 41), (some (39, false)), []⟩,
       ⟨(some 43), .fa 4 (.t 3), (some (39, false)), []⟩,
       ⟨(some 44), .load false 1 (.t 43), (some (39, false)), []⟩,
       ⟨(some 45), .len false (.t 44), (some (39, false)), []⟩,
       ⟨(some 46), .bin .plain .neq (.t 42) (.t 45), (some (39, false)), []⟩,
       ⟨(some 47), .pick (.t 39) (.k (.bool true)) (.t 46), none, []⟩])
     (.cond (.t 47)
      (.seq
       (.reg [] [
         ⟨(some 4), .mv (.k (.bool false)), none, []⟩])
       (.ret i_ref04_Same_r))
      .skip))
    (.seq
     (.seq
      (.reg [] [
        ⟨(some 5), .mv (.k (.int .i64 0)), none, []⟩])
      (.block 0 i_ref04_Same_j0
       (.loop i_ref04_Same_k0 i_ref04_Same_b0)))
     (.seq
      (.reg [] [
        ⟨(some 4), .mv (.k (.bool true)), none, []⟩])
      (.ret i_ref04_Same_r))))),
  [.tmp 4], [], false, []⟩

def i_law10_CodeBack_r : List Bool := [false, false, false, false, false, false, true, false, false, false, false, false, false, false, false, false, false, false, false, false, false, false, false, false, false, false, false, false, false, false, false, false, false, false, false, false, false, false, false, false, false, false, false, false, false, false, false, false, false, false, false, false, false, false, false, false, false, false, false, false, false, false, false, false, false, false, false, false, false, false, false, false, false, false, false, false, false, false, false, false, false, false, false, false, false, false, false, false, false, false, false, false, false, false, false, false, false, false, false, false, false, false, false, false, false, false, false, false, false, false]
/-- heartwood/heartwoodlaw10.CodeBack -/
def i_law10_CodeBack : Ev.Fn := ⟨3, 110, 6,
  (.seq
   (.reg [] [
     ⟨(some 3), .box 0 5 (.t 0), none, []⟩,
     ⟨(some 6), .mv (.k (.bool false)), none, []⟩])
   (.seq
    (.reg [] [
      ⟨(some 21), .qcall n_law10_up [] [], none, []⟩,
      ⟨(some 7), .mv (.t 21), none, []⟩])
    (.seq
     (.reg [] [
       ⟨(some 22), .load true 5 (.t 3), none, []⟩,
       ⟨(some 23), .qcall n_law10_small [(.t 22)] [], none, []⟩,
       ⟨(some 8), .mv (.t 23), none, []⟩])
     (.seq
      (.seq
       (.reg [] [
         ⟨(some 24), .mv (.t 8), none, []⟩,
         ⟨(some 25), .un .not (.t 24), none, []⟩,
         ⟨(some 26), .mv (.t 25), none, []⟩,
         ⟨(some 27), .cn (.t 2), (some (26, false)), []⟩,
         ⟨(some 28), .len false (.t 27), (some (26, false)), []⟩,
         ⟨(some 29), .bin .plain .gtr (.t 28) (.k (.int .i64 5000)), (some (26, false)), []⟩,
         ⟨(some 30), .pick (.t 26) (.k (.bool true)) (.t 29), none, []⟩])
       (.cond (.t 30)
        (.seq
         (.reg [] [
           ⟨(some 31), .mv (.t 7), none, []⟩,
           ⟨(some 6), .mv (.t 31), none, []⟩])
         (.ret i_law10_CodeBack_r))
        .skip))
      (.seq
       (.reg [] [
         ⟨(some 33), .cn (.t 2), none, []⟩,
         ⟨(some 34), .qcall n_code_Read [(.t 33)] [], none, []⟩,
         ⟨(some 32), .mv (.t 34), none, []⟩,
         ⟨(some 35), .ext 0 (.t 32), none, []⟩,
         ⟨(some 36), .ext 1 (.t 32), none, []⟩,
         ⟨(some 9), .new 1 [(.int .i64 0), (.slice none 0 0), (.slice none 0 0), (.slice none 0 0), (.slice none 0 0)], none, []⟩,
         ⟨none, .store 5 (.t 9) (.t 35), none, []⟩,
         ⟨(some 10), .mv (.t 36), none, []⟩])
       (.seq
        (.reg [] [
          ⟨(some 38), .load true 5 (.t 9), none, []⟩,
          ⟨(some 39), .qcall n_code_Write [(.t 38)] [], none, []⟩,
          ⟨(some 37), .mv (.t 39), none, []⟩,
          ⟨(some 40), .ext 0 (.t 37), none, []⟩,
          ⟨(some 41), .ext 1 (.t 37), none, []⟩,
          ⟨(some 11), .cn (.t 40), none, []⟩,
          ⟨(some 12), .mv (.t 41), none, []⟩])
        (.seq
         (.seq
          (.reg [] [
            ⟨(some 42), .mv (.t 10), none, []⟩,
            ⟨(some 43), .bin (.iface ty_api_Code true) .eql (.t 42) (.k .nilIface), none, []⟩,
            ⟨(some 44), .mv (.t 43), none, []⟩,
            ⟨(some 45), .mv (.t 12), (some (44, true)), []⟩,
            ⟨(some 46), .bin (.iface ty_api_Code true) .neq (.t 45) (.k .nilIface), (some (44, true)), []⟩,
            ⟨(some 47), .mv (.t 46), (some (44, true)), []⟩,
            ⟨(some 48), .cn (.t 11), (some (47, false)), []⟩,
            ⟨(some 49), .b2s (.t 48), (some (47, false)), []⟩,
            ⟨(some 50), .cn (.t 2), (some (47, false)), []⟩,
            ⟨(some 51), .b2s (.t 50), (some (47, false)), []⟩,
            ⟨(some 52), .bin .plain .neq (.t 49) (.t 51), (some (47, false)), []⟩,
            ⟨(some 53), .pick (.t 47) (.k (.bool true)) (.t 52), (some (44, true)), []⟩,
            ⟨(some 54), .pick (.t 44) (.t 53) (.k (.bool false)), none, []⟩])
          (.cond (.t 54)
           (.seq
            (.reg [] [
              ⟨(some 6), .mv (.k (.bool false)), none, []⟩])
            (.ret i_law10_CodeBack_r))
           .skip))
         (.seq
          (.reg [] [
            ⟨(some 56), .load true 5 (.t 3), none, []⟩,
            ⟨(some 57), .qcall n_code_Write [(.t 56)] [], none, []⟩,
            ⟨(some 55), .mv (.t 57), none, []⟩,
            ⟨(some 58), .ext 0 (.t 55), none, []⟩,
            ⟨(some 59), .ext 1 (.t 55), none, []⟩,
            ⟨(some 13), .cn (.t 58), none, []⟩,
            ⟨(some 14), .mv (.t 59), none, []⟩])
          (.seq
           (.seq
            (.reg [] [
              ⟨(some 60), .mv (.t 14), none, []⟩,
              ⟨(some 61), .bin (.iface ty_api_Code true) .neq (.t 60) (.k .nilIface), none, []⟩])
            (.cond (.t 61)
             (.seq
              (.reg [] [
                ⟨(some 62), .mv (.t 7), none, []⟩,
                ⟨(some 6), .mv (.t 62), none, []⟩])
              (.ret i_law10_CodeBack_r))
             .skip))
           (.seq
            (.reg [] [
              ⟨(some 64), .cn (.t 13), none, []⟩,
              ⟨(some 65), .qcall n_code_Read [(.t 64)] [], none, []⟩,
              ⟨(some 63), .mv (.t 65), none, []⟩,
              ⟨(some 66), .ext 0 (.t 63), none, []⟩,
              ⟨(some 67), .ext 1 (.t 63), none, []⟩,
              ⟨(some 15), .new 2 [(.int .i64 0), (.slice none 0 0), (.slice none 0 0), (.slice none 0 0), (.slice none 0 0)], none, []⟩,
              ⟨none, .store 5 (.t 15) (.t 66), none, []⟩,
              ⟨(some 16), .mv (.t 67), none, []⟩])
            (.seq
             (.seq
              (.reg [] [
                ⟨(some 68), .mv (.t 16), none, []⟩,
                ⟨(some 69), .bin (.iface ty_api_Code true) .neq (.t 68) (.k .nilIface), none, []⟩,
                ⟨(some 70), .mv (.t 69), none, []⟩,
                ⟨(some 71), .cn (.t 13), (some (70, false)), []⟩,
                ⟨(some 72), .len false (.t 71), (some (70, false)), []⟩,
                ⟨(some 73), .bin .plain .eql (.t 72) (.k (.int .i64 0)), (some (70, false)), []⟩,
                ⟨(some 74), .pick (.t 70) (.k (.bool true)) (.t 73), none, []⟩])
              (.cond (.t 74)
               (.seq
                (.reg [] [
                  ⟨(some 6), .mv (.k (.bool false)), none, []⟩])
                (.ret i_law10_CodeBack_r))
               .skip))
             (.seq
              (.reg [] [
                ⟨(some 76), .cn (.t 13), none, []⟩,
                ⟨(some 77), .cn (.t 13), none, []⟩,
                ⟨(some 78), .len false (.t 77), none, []⟩,
                ⟨(some 79), .bin .plain .sub (.t 78) (.k (.int .i64 1)), none, []⟩,
                ⟨(some 80), .slice 1 (.t 76) none (some (.t 79)) none, none, []⟩,
                ⟨(some 81), .qcall n_code_Read [(.t 80)] [], none, []⟩,
                ⟨(some 75), .mv (.t 81), none, []⟩,
                ⟨(some 82), .ext 0 (.t 75), none, []⟩,
                ⟨(some 83), .ext 1 (.t 75), none, []⟩,
                ⟨(some 17), .new 3 [(.int .i64 0), (.slice none 0 0), (.slice none 0 0), (.slice none 0 0), (.slice none 0 0)], none, []⟩,
                ⟨none, .store 5 (.t 17) (.t 82), none, []⟩,
                ⟨(some 18), .mv (.t 83), none, []⟩])
              (.seq
               (.reg [] [
                 ⟨(some 85), .lit 4 ty_uint8 1 0 [(.int .u8 0)] [], none, []⟩,
                 ⟨(some 86), .cn (.t 13), none, []⟩,
                 ⟨(some 87), .app 4 ty_uint8 1 1 (.t 85) (.t 86), none, []⟩,
                 ⟨(some 88), .mv (.t 1), none, []⟩,
                 ⟨(some 89), .litd 1 1 [(.int .u8 0)] [(0, (.t 88))], none, []⟩,
                 ⟨(some 90), .app 4 ty_uint8 1 1 (.t 87) (.t 89), none, []⟩,
                 ⟨(some 91), .qcall n_code_Read [(.t 90)] [], none, [90]⟩,
                 ⟨(some 84), .mv (.t 91), none, []⟩,
                 ⟨(some 92), .ext 0 (.t 84), none, []⟩,
                 ⟨(some 93), .ext 1 (.t 84), none, []⟩,
                 ⟨(some 19), .new 5 [(.int .i64 0), (.slice none 0 0), (.slice none 0 0), (.slice none 0 0), (.slice none 0 0)], none, []⟩,
                 ⟨none, .store 5 (.t 19) (.t 92), none, []⟩,
                 ⟨(some 20), .mv (.t 93), none, []⟩])
               (.seq
                (.reg [] [
                  ⟨(some 94), .mv (.t 7), none, []⟩,
                  ⟨(some 95), .mv (.t 94), none, []⟩,
                  ⟨(some 96), .load true 5 (.t 15), (some (95, true)), []⟩,
                  ⟨(some 97), .load true 5 (.t 3), (some (95, true)), []⟩,
                  ⟨(some 98), .qcall n_ref04_Same [(.t 96), (.t 97)] [], (some (95, true)), []⟩,
                  ⟨(some 99), .pick (.t 95) (.t 98) (.k (.bool false)), none, []⟩,
                  ⟨(some 100), .mv (.t 99), none, []⟩,
                  ⟨(some 101), .mv (.t 18), (some (100, true)), []⟩,
                  ⟨(some 102), .mki ty_api_Code (.k (.int .i64 3)), (some (100, true)), []⟩,
                  ⟨(some 103), .bin (.iface ty_api_Code false) .eql (.t 101) (.t 102), (some (100, true)), []⟩,
                  ⟨(some 104), .pick (.t 100) (.t 103) (.k (.bool false)), none, []⟩,
                  ⟨(some 105), .mv (.t 104), none, []⟩,
                  ⟨(some 106), .mv (.t 20), (some (105, true)), []⟩,
                  ⟨(some 107), .mki ty_api_Code (.k (.int .i64 4)), (some (105, true)), []⟩,
                  ⟨(some 108), .bin (.iface ty_api_Code false) .eql (.t 106) (.t 107), (some (105, true)), []⟩,
                  ⟨(some 109), .pick (.t 105) (.t 108) (.k (.bool false)), none, []⟩,
                  ⟨(some 6), .mv (.t 109), none, []⟩])
                (.ret i_law10_CodeBack_r))))))))))))))),
  [.tmp 6], [], false, []⟩

def tab (f : Nat) : Option Ev.Fn := match f with
  | 12 => some i_law10_CodeWrites
  | 41 => some i_law10_up
  | 43 => some i_code_Write
  | 63 => some i_tree_Check
  | 86 => some i_tree_deep
  | 99 => some i_tree_deep_1
  | 94 => some i_slices_ContainsFunc_sl_api_Tree_api_Tree
  | 104 => some i_slices_IndexFunc_sl_api_Tree_api_Tree
  | 87 => some i_tree_formed
  | 100 => some i_tree_formed_1
  | 64 => some i_code_long
  | 65 => some i_code_write
  | 88 => some i_coder_Bytes
  | 101 => some i_coder_Number
  | 45 => some i_code_Read
  | 68 => some i_coder_NewReader
  | 50 => some i_slices_Clone_sl_byte_byte
  | 69 => some i_code_Read_1
  | 70 => some i_coder_Reader_Byte
  | 90 => some i_coder_Reader_take
  | 71 => some i_coder_Reader_Bytes
  | 91 => some i_coder_Reader_Number
  | 72 => some i_coder_Reader_End
  | 42 => some i_law10_small
  | 24 => some i_ref04_Light
  | 44 => some i_ref10_Write
  | 54 => some i_ref04_Check
  | 78 => some i_ref04_Deep
  | 79 => some i_ref04_Formed
  | 66 => some i_ref10_long
  | 67 => some i_ref10_bytes
  | 89 => some i_ref02_Bytes
  | 102 => some i_ref02_Number
  | 38 => some i_law00_Code
  | 13 => some i_law10_CodeReads
  | 46 => some i_ref10_Read
  | 73 => some i_ref10_read
  | 92 => some i_ref02_Reader_Byte
  | 93 => some i_ref02_Reader_Bytes
  | 103 => some i_ref02_Reader_Number
  | 74 => some i_ref02_Reader_End
  | 31 => some i_ref04_Same
  | 14 => some i_law10_CodeBack
  | _ => none
theorem t_law10_CodeWrites : tab n_law10_CodeWrites = some i_law10_CodeWrites := rfl
theorem t_law10_up : tab n_law10_up = some i_law10_up := rfl
theorem t_code_Write : tab n_code_Write = some i_code_Write := rfl
theorem t_tree_Check : tab n_tree_Check = some i_tree_Check := rfl
theorem t_tree_deep : tab n_tree_deep = some i_tree_deep := rfl
theorem t_tree_deep_1 : tab n_tree_deep_1 = some i_tree_deep_1 := rfl
theorem t_slices_ContainsFunc_sl_api_Tree_api_Tree : tab n_slices_ContainsFunc_sl_api_Tree_api_Tree = some i_slices_ContainsFunc_sl_api_Tree_api_Tree := rfl
theorem t_slices_IndexFunc_sl_api_Tree_api_Tree : tab n_slices_IndexFunc_sl_api_Tree_api_Tree = some i_slices_IndexFunc_sl_api_Tree_api_Tree := rfl
theorem t_tree_formed : tab n_tree_formed = some i_tree_formed := rfl
theorem t_tree_formed_1 : tab n_tree_formed_1 = some i_tree_formed_1 := rfl
theorem t_code_long : tab n_code_long = some i_code_long := rfl
theorem t_code_write : tab n_code_write = some i_code_write := rfl
theorem t_coder_Bytes : tab n_coder_Bytes = some i_coder_Bytes := rfl
theorem t_coder_Number : tab n_coder_Number = some i_coder_Number := rfl
theorem t_code_Read : tab n_code_Read = some i_code_Read := rfl
theorem t_coder_NewReader : tab n_coder_NewReader = some i_coder_NewReader := rfl
theorem t_slices_Clone_sl_byte_byte : tab n_slices_Clone_sl_byte_byte = some i_slices_Clone_sl_byte_byte := rfl
theorem t_code_Read_1 : tab n_code_Read_1 = some i_code_Read_1 := rfl
theorem t_coder_Reader_Byte : tab n_coder_Reader_Byte = some i_coder_Reader_Byte := rfl
theorem t_coder_Reader_take : tab n_coder_Reader_take = some i_coder_Reader_take := rfl
theorem t_coder_Reader_Bytes : tab n_coder_Reader_Bytes = some i_coder_Reader_Bytes := rfl
theorem t_coder_Reader_Number : tab n_coder_Reader_Number = some i_coder_Reader_Number := rfl
theorem t_coder_Reader_End : tab n_coder_Reader_End = some i_coder_Reader_End := rfl
theorem t_law10_small : tab n_law10_small = some i_law10_small := rfl
theorem t_ref04_Light : tab n_ref04_Light = some i_ref04_Light := rfl
theorem t_ref10_Write : tab n_ref10_Write = some i_ref10_Write := rfl
theorem t_ref04_Check : tab n_ref04_Check = some i_ref04_Check := rfl
theorem t_ref04_Deep : tab n_ref04_Deep = some i_ref04_Deep := rfl
theorem t_ref04_Formed : tab n_ref04_Formed = some i_ref04_Formed := rfl
theorem t_ref10_long : tab n_ref10_long = some i_ref10_long := rfl
theorem t_ref10_bytes : tab n_ref10_bytes = some i_ref10_bytes := rfl
theorem t_ref02_Bytes : tab n_ref02_Bytes = some i_ref02_Bytes := rfl
theorem t_ref02_Number : tab n_ref02_Number = some i_ref02_Number := rfl
theorem t_law00_Code : tab n_law00_Code = some i_law00_Code := rfl
theorem t_law10_CodeReads : tab n_law10_CodeReads = some i_law10_CodeReads := rfl
theorem t_ref10_Read : tab n_ref10_Read = some i_ref10_Read := rfl
theorem t_ref10_read : tab n_ref10_read = some i_ref10_read := rfl
theorem t_ref02_Reader_Byte : tab n_ref02_Reader_Byte = some i_ref02_Reader_Byte := rfl
theorem t_ref02_Reader_Bytes : tab n_ref02_Reader_Bytes = some i_ref02_Reader_Bytes := rfl
theorem t_ref02_Reader_Number : tab n_ref02_Reader_Number = some i_ref02_Reader_Number := rfl
theorem t_ref02_Reader_End : tab n_ref02_Reader_End = some i_ref02_Reader_End := rfl
theorem t_ref04_Same : tab n_ref04_Same = some i_ref04_Same := rfl
theorem t_law10_CodeBack : tab n_law10_CodeBack = some i_law10_CodeBack := rfl
def G0 : Cf := ⟨fun _ => [], true⟩
theorem G0_gf : G0.gf = true := rfl
attribute [go_sem] G0_gf
theorem lt_law10_CodeWrites : (n_law10_CodeWrites < 1000000) = True := eq_true (by decide)
attribute [go_sem] lt_law10_CodeWrites
theorem lt_law10_up : (n_law10_up < 1000000) = True := eq_true (by decide)
attribute [go_sem] lt_law10_up
theorem lt_code_Write : (n_code_Write < 1000000) = True := eq_true (by decide)
attribute [go_sem] lt_code_Write
theorem lt_tree_Check : (n_tree_Check < 1000000) = True := eq_true (by decide)
attribute [go_sem] lt_tree_Check
theorem lt_tree_deep : (n_tree_deep < 1000000) = True := eq_true (by decide)
attribute [go_sem] lt_tree_deep
theorem lt_tree_deep_1 : (n_tree_deep_1 < 1000000) = True := eq_true (by decide)
attribute [go_sem] lt_tree_deep_1
theorem lt_slices_ContainsFunc_sl_api_Tree_api_Tree : (n_slices_ContainsFunc_sl_api_Tree_api_Tree < 1000000) = True := eq_true (by decide)
attribute [go_sem] lt_slices_ContainsFunc_sl_api_Tree_api_Tree
theorem lt_slices_IndexFunc_sl_api_Tree_api_Tree : (n_slices_IndexFunc_sl_api_Tree_api_Tree < 1000000) = True := eq_true (by decide)
attribute [go_sem] lt_slices_IndexFunc_sl_api_Tree_api_Tree
theorem lt_tree_formed : (n_tree_formed < 1000000) = True := eq_true (by decide)
attribute [go_sem] lt_tree_formed
theorem lt_tree_formed_1 : (n_tree_formed_1 < 1000000) = True := eq_true (by decide)
attribute [go_sem] lt_tree_formed_1
theorem lt_code_long : (n_code_long < 1000000) = True := eq_true (by decide)
attribute [go_sem] lt_code_long
theorem lt_code_write : (n_code_write < 1000000) = True := eq_true (by decide)
attribute [go_sem] lt_code_write
theorem lt_coder_Bytes : (n_coder_Bytes < 1000000) = True := eq_true (by decide)
attribute [go_sem] lt_coder_Bytes
theorem lt_coder_Number : (n_coder_Number < 1000000) = True := eq_true (by decide)
attribute [go_sem] lt_coder_Number
theorem lt_code_Read : (n_code_Read < 1000000) = True := eq_true (by decide)
attribute [go_sem] lt_code_Read
theorem lt_coder_NewReader : (n_coder_NewReader < 1000000) = True := eq_true (by decide)
attribute [go_sem] lt_coder_NewReader
theorem lt_slices_Clone_sl_byte_byte : (n_slices_Clone_sl_byte_byte < 1000000) = True := eq_true (by decide)
attribute [go_sem] lt_slices_Clone_sl_byte_byte
theorem lt_code_Read_1 : (n_code_Read_1 < 1000000) = True := eq_true (by decide)
attribute [go_sem] lt_code_Read_1
theorem lt_coder_Reader_Byte : (n_coder_Reader_Byte < 1000000) = True := eq_true (by decide)
attribute [go_sem] lt_coder_Reader_Byte
theorem lt_coder_Reader_take : (n_coder_Reader_take < 1000000) = True := eq_true (by decide)
attribute [go_sem] lt_coder_Reader_take
theorem lt_coder_Reader_Bytes : (n_coder_Reader_Bytes < 1000000) = True := eq_true (by decide)
attribute [go_sem] lt_coder_Reader_Bytes
theorem lt_coder_Reader_Number : (n_coder_Reader_Number < 1000000) = True := eq_true (by decide)
attribute [go_sem] lt_coder_Reader_Number
theorem lt_coder_Reader_End : (n_coder_Reader_End < 1000000) = True := eq_true (by decide)
attribute [go_sem] lt_coder_Reader_End
theorem lt_law10_small : (n_law10_small < 1000000) = True := eq_true (by decide)
attribute [go_sem] lt_law10_small
theorem lt_ref04_Light : (n_ref04_Light < 1000000) = True := eq_true (by decide)
attribute [go_sem] lt_ref04_Light
theorem lt_ref10_Write : (n_ref10_Write < 1000000) = True := eq_true (by decide)
attribute [go_sem] lt_ref10_Write
theorem lt_ref04_Check : (n_ref04_Check < 1000000) = True := eq_true (by decide)
attribute [go_sem] lt_ref04_Check
theorem lt_ref04_Deep : (n_ref04_Deep < 1000000) = True := eq_true (by decide)
attribute [go_sem] lt_ref04_Deep
theorem lt_ref04_Formed : (n_ref04_Formed < 1000000) = True := eq_true (by decide)
attribute [go_sem] lt_ref04_Formed
theorem lt_ref10_long : (n_ref10_long < 1000000) = True := eq_true (by decide)
attribute [go_sem] lt_ref10_long
theorem lt_ref10_bytes : (n_ref10_bytes < 1000000) = True := eq_true (by decide)
attribute [go_sem] lt_ref10_bytes
theorem lt_ref02_Bytes : (n_ref02_Bytes < 1000000) = True := eq_true (by decide)
attribute [go_sem] lt_ref02_Bytes
theorem lt_ref02_Number : (n_ref02_Number < 1000000) = True := eq_true (by decide)
attribute [go_sem] lt_ref02_Number
theorem lt_law00_Code : (n_law00_Code < 1000000) = True := eq_true (by decide)
attribute [go_sem] lt_law00_Code
theorem lt_law10_CodeReads : (n_law10_CodeReads < 1000000) = True := eq_true (by decide)
attribute [go_sem] lt_law10_CodeReads
theorem lt_ref10_Read : (n_ref10_Read < 1000000) = True := eq_true (by decide)
attribute [go_sem] lt_ref10_Read
theorem lt_ref10_read : (n_ref10_read < 1000000) = True := eq_true (by decide)
attribute [go_sem] lt_ref10_read
theorem lt_ref02_Reader_Byte : (n_ref02_Reader_Byte < 1000000) = True := eq_true (by decide)
attribute [go_sem] lt_ref02_Reader_Byte
theorem lt_ref02_Reader_Bytes : (n_ref02_Reader_Bytes < 1000000) = True := eq_true (by decide)
attribute [go_sem] lt_ref02_Reader_Bytes
theorem lt_ref02_Reader_Number : (n_ref02_Reader_Number < 1000000) = True := eq_true (by decide)
attribute [go_sem] lt_ref02_Reader_Number
theorem lt_ref02_Reader_End : (n_ref02_Reader_End < 1000000) = True := eq_true (by decide)
attribute [go_sem] lt_ref02_Reader_End
theorem lt_ref04_Same : (n_ref04_Same < 1000000) = True := eq_true (by decide)
attribute [go_sem] lt_ref04_Same
theorem lt_law10_CodeBack : (n_law10_CodeBack < 1000000) = True := eq_true (by decide)
attribute [go_sem] lt_law10_CodeBack
theorem ca_law10_CodeWrites (l : List AV) : cArgs tab n_law10_CodeWrites l = canonA [] l := rfl
attribute [go_sem] t_law10_CodeWrites ca_law10_CodeWrites
theorem ca_law10_up (l : List AV) : cArgs tab n_law10_up l = canonA [] l := rfl
attribute [go_sem] t_law10_up ca_law10_up
theorem ca_code_Write (l : List AV) : cArgs tab n_code_Write l = canonA [] l := rfl
attribute [go_sem] t_code_Write ca_code_Write
theorem ca_tree_Check (l : List AV) : cArgs tab n_tree_Check l = canonA [] l := rfl
attribute [go_sem] t_tree_Check ca_tree_Check
theorem ca_tree_deep (l : List AV) : cArgs tab n_tree_deep l = canonA [] l := rfl
attribute [go_sem] t_tree_deep ca_tree_deep
theorem ca_tree_deep_1 (l : List AV) : cArgs tab n_tree_deep_1 l = canonA [] l := rfl
attribute [go_sem] t_tree_deep_1 ca_tree_deep_1
theorem ca_slices_ContainsFunc_sl_api_Tree_api_Tree (l : List AV) : cArgs tab n_slices_ContainsFunc_sl_api_Tree_api_Tree l = canonA [] l := rfl
attribute [go_sem] t_slices_ContainsFunc_sl_api_Tree_api_Tree ca_slices_ContainsFunc_sl_api_Tree_api_Tree
theorem ca_slices_IndexFunc_sl_api_Tree_api_Tree (l : List AV) : cArgs tab n_slices_IndexFunc_sl_api_Tree_api_Tree l = canonA [] l := rfl
attribute [go_sem] t_slices_IndexFunc_sl_api_Tree_api_Tree ca_slices_IndexFunc_sl_api_Tree_api_Tree
theorem ca_tree_formed (l : List AV) : cArgs tab n_tree_formed l = canonA [] l := rfl
attribute [go_sem] t_tree_formed ca_tree_formed
theorem ca_tree_formed_1 (l : List AV) : cArgs tab n_tree_formed_1 l = canonA [] l := rfl
attribute [go_sem] t_tree_formed_1 ca_tree_formed_1
theorem ca_code_long (l : List AV) : cArgs tab n_code_long l = canonA [] l := rfl
attribute [go_sem] t_code_long ca_code_long
theorem ca_code_write (l : List AV) : cArgs tab n_code_write l = canonA [true, false] l := rfl
attribute [go_sem] t_code_write ca_code_write
theorem ca_coder_Bytes (l : List AV) : cArgs tab n_coder_Bytes l = canonA [] l := rfl
attribute [go_sem] t_coder_Bytes ca_coder_Bytes
theorem ca_coder_Number (l : List AV) : cArgs tab n_coder_Number l = canonA [] l := rfl
attribute [go_sem] t_coder_Number ca_coder_Number
theorem ca_code_Read (l : List AV) : cArgs tab n_code_Read l = canonA [] l := rfl
attribute [go_sem] t_code_Read ca_code_Read
theorem ca_coder_NewReader (l : List AV) : cArgs tab n_coder_NewReader l = canonA [] l := rfl
attribute [go_sem] t_coder_NewReader ca_coder_NewReader
theorem ca_slices_Clone_sl_byte_byte (l : List AV) : cArgs tab n_slices_Clone_sl_byte_byte l = canonA [] l := rfl
attribute [go_sem] t_slices_Clone_sl_byte_byte ca_slices_Clone_sl_byte_byte
theorem ca_code_Read_1 (l : List AV) : cArgs tab n_code_Read_1 l = canonA [] l := rfl
attribute [go_sem] t_code_Read_1 ca_code_Read_1
theorem ca_coder_Reader_Byte (l : List AV) : cArgs tab n_coder_Reader_Byte l = canonA [] l := rfl
attribute [go_sem] t_coder_Reader_Byte ca_coder_Reader_Byte
theorem ca_coder_Reader_take (l : List AV) : cArgs tab n_coder_Reader_take l = canonA [] l := rfl
attribute [go_sem] t_coder_Reader_take ca_coder_Reader_take
theorem ca_coder_Reader_Bytes (l : List AV) : cArgs tab n_coder_Reader_Bytes l = canonA [] l := rfl
attribute [go_sem] t_coder_Reader_Bytes ca_coder_Reader_Bytes
theorem ca_coder_Reader_Number (l : List AV) : cArgs tab n_coder_Reader_Number l = canonA [] l := rfl
attribute [go_sem] t_coder_Reader_Number ca_coder_Reader_Number
theorem ca_coder_Reader_End (l : List AV) : cArgs tab n_coder_Reader_End l = canonA [] l := rfl
attribute [go_sem] t_coder_Reader_End ca_coder_Reader_End
theorem ca_law10_small (l : List AV) : cArgs tab n_law10_small l = canonA [] l := rfl
attribute [go_sem] t_law10_small ca_law10_small
theorem ca_ref04_Light (l : List AV) : cArgs tab n_ref04_Light l = canonA [] l := rfl
attribute [go_sem] t_ref04_Light ca_ref04_Light
theorem ca_ref10_Write (l : List AV) : cArgs tab n_ref10_Write l = canonA [] l := rfl
attribute [go_sem] t_ref10_Write ca_ref10_Write
theorem ca_ref04_Check (l : List AV) : cArgs tab n_ref04_Check l = canonA [] l := rfl
attribute [go_sem] t_ref04_Check ca_ref04_Check
theorem ca_ref04_Deep (l : List AV) : cArgs tab n_ref04_Deep l = canonA [] l := rfl
attribute [go_sem] t_ref04_Deep ca_ref04_Deep
theorem ca_ref04_Formed (l : List AV) : cArgs tab n_ref04_Formed l = canonA [] l := rfl
attribute [go_sem] t_ref04_Formed ca_ref04_Formed
theorem ca_ref10_long (l : List AV) : cArgs tab n_ref10_long l = canonA [] l := rfl
attribute [go_sem] t_ref10_long ca_ref10_long
theorem ca_ref10_bytes (l : List AV) : cArgs tab n_ref10_bytes l = canonA [] l := rfl
attribute [go_sem] t_ref10_bytes ca_ref10_bytes
theorem ca_ref02_Bytes (l : List AV) : cArgs tab n_ref02_Bytes l = canonA [] l := rfl
attribute [go_sem] t_ref02_Bytes ca_ref02_Bytes
theorem ca_ref02_Number (l : List AV) : cArgs tab n_ref02_Number l = canonA [] l := rfl
attribute [go_sem] t_ref02_Number ca_ref02_Number
theorem ca_law00_Code (l : List AV) : cArgs tab n_law00_Code l = canonA [] l := rfl
attribute [go_sem] t_law00_Code ca_law00_Code
theorem ca_law10_CodeReads (l : List AV) : cArgs tab n_law10_CodeReads l = canonA [] l := rfl
attribute [go_sem] t_law10_CodeReads ca_law10_CodeReads
theorem ca_ref10_Read (l : List AV) : cArgs tab n_ref10_Read l = canonA [] l := rfl
attribute [go_sem] t_ref10_Read ca_ref10_Read
theorem ca_ref10_read (l : List AV) : cArgs tab n_ref10_read l = canonA [] l := rfl
attribute [go_sem] t_ref10_read ca_ref10_read
theorem ca_ref02_Reader_Byte (l : List AV) : cArgs tab n_ref02_Reader_Byte l = canonA [] l := rfl
attribute [go_sem] t_ref02_Reader_Byte ca_ref02_Reader_Byte
theorem ca_ref02_Reader_Bytes (l : List AV) : cArgs tab n_ref02_Reader_Bytes l = canonA [] l := rfl
attribute [go_sem] t_ref02_Reader_Bytes ca_ref02_Reader_Bytes
theorem ca_ref02_Reader_Number (l : List AV) : cArgs tab n_ref02_Reader_Number l = canonA [] l := rfl
attribute [go_sem] t_ref02_Reader_Number ca_ref02_Reader_Number
theorem ca_ref02_Reader_End (l : List AV) : cArgs tab n_ref02_Reader_End l = canonA [] l := rfl
attribute [go_sem] t_ref02_Reader_End ca_ref02_Reader_End
theorem ca_ref04_Same (l : List AV) : cArgs tab n_ref04_Same l = canonA [] l := rfl
attribute [go_sem] t_ref04_Same ca_ref04_Same
theorem ca_law10_CodeBack (l : List AV) : cArgs tab n_law10_CodeBack l = canonA [] l := rfl
attribute [go_sem] t_law10_CodeBack ca_law10_CodeBack
theorem kt_law10_CodeWrites_r (l : List AV) : keepT i_law10_CodeWrites_r l = keepT [false, false, true, false, false, false, false, false, false, false, false, false, false, false, false, false, false, false, false, false, false, false, false, false, false, false, false, false, false, false, false, false, false, false, false, false, false, false, false] l := rfl
attribute [go_sem] kt_law10_CodeWrites_r
theorem kt_law10_up_r (l : List AV) : keepT i_law10_up_r l = keepT [true, false, false, false, false, false, false, false, false, false, false, false, false, false, false, false, false, false, false, false, false, false, false, false, false, false, false, false, false, false, false, false] l := rfl
attribute [go_sem] kt_law10_up_r
theorem kt_code_Write_r (l : List AV) : keepT i_code_Write_r l = keepT [false, false, true, true, false, false, false, false, false, false, false, false, false, false, false] l := rfl
attribute [go_sem] kt_code_Write_r
theorem kt_tree_Check_r (l : List AV) : keepT i_tree_Check_r l = keepT [false, false, true, false, false, false, false, false, false, false, false, false] l := rfl
attribute [go_sem] kt_tree_Check_r
theorem kt_tree_Check_j0 (l : List AV) : keepT i_tree_Check_j0 l = keepT [false, false, false, false, false, false, false, false, false, false, false, false] l := rfl
attribute [go_sem] kt_tree_Check_j0
theorem kt_tree_deep_r (l : List AV) : keepT i_tree_deep_r l = keepT [false, false, false, false, true, false, false, false, false, false, false, false, false, false, false, false, false, false, false, false, false, false, false, false, false, false, false, false, false] l := rfl
attribute [go_sem] kt_tree_deep_r
theorem kt_tree_deep_1_r (l : List AV) : keepT i_tree_deep_1_r l = keepT [false, false, false, true, false, false, false, false] l := rfl
attribute [go_sem] kt_tree_deep_1_r
theorem kt_slices_ContainsFunc_sl_api_Tree_api_Tree_r (l : List AV) : keepT i_slices_ContainsFunc_sl_api_Tree_api_Tree_r l = keepT [false, false, false, false, true, false, false, false, false] l := rfl
attribute [go_sem] kt_slices_ContainsFunc_sl_api_Tree_api_Tree_r
theorem kt_slices_IndexFunc_sl_api_Tree_api_Tree_r (l : List AV) : keepT i_slices_IndexFunc_sl_api_Tree_api_Tree_r l = keepT [false, false, false, false, true, false, false, false, false, false, false, false, false, false, false, false, false, false, false] l := rfl
attribute [go_sem] kt_slices_IndexFunc_sl_api_Tree_api_Tree_r
theorem kt_slices_IndexFunc_sl_api_Tree_api_Tree_j1 (l : List AV) : keepT i_slices_IndexFunc_sl_api_Tree_api_Tree_j1 l = keepT [true, true, false, false, false, false, false, true, true, false, false, false, false, false, false, false, false, false, false] l := rfl
attribute [go_sem] kt_slices_IndexFunc_sl_api_Tree_api_Tree_j1
theorem kt_slices_IndexFunc_sl_api_Tree_api_Tree_k0 (l : List AV) : keepT i_slices_IndexFunc_sl_api_Tree_api_Tree_k0 l = keepT [true, true, false, false, false, false, false, true, true, false, false, false, false, false, false, false, false, false, false] l := rfl
attribute [go_sem] kt_slices_IndexFunc_sl_api_Tree_api_Tree_k0
theorem kt_slices_IndexFunc_sl_api_Tree_api_Tree_j0 (l : List AV) : keepT i_slices_IndexFunc_sl_api_Tree_api_Tree_j0 l = keepT [false, false, false, false, false, false, false, false, false, false, false, false, false, false, false, false, false, false, false] l := rfl
attribute [go_sem] kt_slices_IndexFunc_sl_api_Tree_api_Tree_j0
theorem kt_tree_formed_r (l : List AV) : keepT i_tree_formed_r l = keepT [false, false, true, false, false, false, false, false, false, false, false, false, false, false, false, false, false, false, false, false, false, false, false, false, false, false, false, false, false, false, false, false, false, false, false, false, false, false, false, false, false, false, false, false, false, false, false, false, false, false, false, false, false, false, false, false, false, false, false, false, false, false, false, false, false, false, false, false, false, false, false, false, false, false, false, false, false, false, false, false, false, false, false, false, false, false, false] l := rfl
attribute [go_sem] kt_tree_formed_r
theorem kt_tree_formed_j0 (l : List AV) : keepT i_tree_formed_j0 l = keepT [false, true, false, true, false, false, false, false, false, false, false, false, false, false, false, false, false, false, false, false, false, false, false, false, false, false, false, false, false, false, false, false, false, false, false, false, false, false, false, false, false, false, false, false, false, false, false, false, false, false, false, false, false, false, false, false, false, false, false, false, false, false, false, false, false, false, false, false, false, false, false, false, false, false, false, false, false, false, false, false, false, false, false, false, false, false, false] l := rfl
attribute [go_sem] kt_tree_formed_j0
theorem kt_tree_formed_1_r (l : List AV) : keepT i_tree_formed_1_r l = keepT [false, false, true, false, false, false] l := rfl
attribute [go_sem] kt_tree_formed_1_r
theorem kt_code_long_r (l : List AV) : keepT i_code_long_r l = keepT [false, false, true, false, false, false, false, false, false, false, false, false, false, false, false, false, false, false, false] l := rfl
attribute [go_sem] kt_code_long_r
theorem kt_code_long_j1 (l : List AV) : keepT i_code_long_j1 l = keepT [false, false, false, false, false, false, false, false, false, false, true, true, true, false, false, false, false, false, false] l := rfl
attribute [go_sem] kt_code_long_j1
theorem kt_code_long_k0 (l : List AV) : keepT i_code_long_k0 l = keepT [false, false, false, false, false, false, false, false, false, false, true, true, true, false, false, false, false, false, false] l := rfl
attribute [go_sem] kt_code_long_k0
theorem kt_code_long_j0 (l : List AV) : keepT i_code_long_j0 l = keepT [false, false, false, false, false, false, false, false, false, false, false, false, false, false, false, false, false, false, false] l := rfl
attribute [go_sem] kt_code_long_j0
theorem kt_code_write_r (l : List AV) : keepT i_code_write_r l = keepT [false, false, false, false, true, false, false, false, false, false, false, false, false, false, false, false, false, false, false, false, false, false, false, false, false, false, false, false, false, false, false, false, false, false, false, false, false, false, false, false, false, false, false, false, false, false, false, false, false, false, false, false, false, false, false, false] l := rfl
attribute [go_sem] kt_code_write_r
theorem kt_code_write_j0 (l : List AV) : keepT i_code_write_j0 l = keepT [true, false, false, true, false, false, false, false, false, false, false, false, false, false, false, false, false, false, false, false, false, false, false, false, false, false, false, false, false, false, false, false, false, false, false, false, false, false, false, false, false, false, false, false, false, false, false, false, false, false, false, false, false, false, false, false] l := rfl
attribute [go_sem] kt_code_write_j0
theorem kt_code_write_j2 (l : List AV) : keepT i_code_write_j2 l = keepT [true, false, false, false, false, false, false, false, false, false, false, false, false, false, false, false, false, false, false, false, false, false, false, false, false, false, false, false, false, false, false, false, false, false, false, false, false, false, false, false, false, false, false, false, false, true, true, true, false, false, false, false, false, false, false, false] l := rfl
attribute [go_sem] kt_code_write_j2
theorem kt_code_write_k0 (l : List AV) : keepT i_code_write_k0 l = keepT [true, false, false, false, false, false, false, false, false, false, false, false, false, false, false, false, false, false, false, false, false, false, false, false, false, false, false, false, false, false, false, false, false, false, false, false, false, false, false, false, false, false, false, false, false, true, true, true, false, false, false, false, false, false, false, false] l := rfl
attribute [go_sem] kt_code_write_k0
theorem kt_code_write_j1 (l : List AV) : keepT i_code_write_j1 l = keepT [true, false, false, false, false, false, false, false, false, false, false, false, false, false, false, false, false, false, false, false, false, false, false, false, false, false, false, false, false, false, false, false, false, false, false, false, false, false, false, false, false, false, false, false, false, false, false, false, false, false, false, false, false, false, false, false] l := rfl
attribute [go_sem] kt_code_write_j1
theorem kt_coder_Bytes_r (l : List AV) : keepT i_coder_Bytes_r l = keepT [false, false, true, false, false, false, false, false, false] l := rfl
attribute [go_sem] kt_coder_Bytes_r
theorem kt_coder_Number_r (l : List AV) : keepT i_coder_Number_r l = keepT [false, false, true, false, false, false, false, false, false, false, false, false, false, false, false, false, false, false, false, false, false, false, false, false, false, false, false, false, false, false, false, false, false, false, false, false, false, false, false, false, false, false, false] l := rfl
attribute [go_sem] kt_coder_Number_r
theorem kt_coder_Number_j1 (l : List AV) : keepT i_coder_Number_j1 l = keepT [true, false, false, true, false, false, false, false, false, false, false, false, false, false, false, false, false, false, false, false, false, false, false, false, false, false, false, false, false, false, false, false, false, false, false, false, false, false, false, false, false, false, false] l := rfl
attribute [go_sem] kt_coder_Number_j1
theorem kt_coder_Number_k0 (l : List AV) : keepT i_coder_Number_k0 l = keepT [true, false, false, true, false, false, false, false, false, false, false, false, false, false, false, false, false, false, false, false, false, false, false, false, false, false, false, false, false, false, false, false, false, false, false, false, false, false, false, false, false, false, false] l := rfl
attribute [go_sem] kt_coder_Number_k0
theorem kt_coder_Number_j0 (l : List AV) : keepT i_coder_Number_j0 l = keepT [true, false, false, true, false, false, false, false, false, false, false, false, false, false, false, false, false, false, false, false, false, false, false, false, false, false, false, false, false, false, false, false, false, false, false, false, false, false, false, false, false, false, false] l := rfl
attribute [go_sem] kt_coder_Number_j0
theorem kt_coder_Number_j3 (l : List AV) : keepT i_coder_Number_j3 l = keepT [true, false, false, true, true, false, false, false, false, false, false, false, false, false, false, false, false, false, false, false, false, false, false, false, false, false, true, true, false, false, false, false, false, false, false, false, false, false, false, false, false, false, false] l := rfl
attribute [go_sem] kt_coder_Number_j3
theorem kt_coder_Number_k1 (l : List AV) : keepT i_coder_Number_k1 l = keepT [true, false, false, true, true, false, false, false, false, false, false, false, false, false, false, false, false, false, false, false, false, false, false, false, false, false, true, true, false, false, false, false, false, false, false, false, false, false, false, false, false, false, false] l := rfl
attribute [go_sem] kt_coder_Number_k1
theorem kt_coder_Number_j2 (l : List AV) : keepT i_coder_Number_j2 l = keepT [false, false, false, false, true, false, false, false, false, false, false, false, false, false, false, false, false, false, false, false, false, false, false, false, false, false, false, false, false, false, false, false, false, false, false, false, false, false, false, false, false, false, false] l := rfl
attribute [go_sem] kt_coder_Number_j2
theorem kt_code_Read_r (l : List AV) : keepT i_code_Read_r l = keepT [false, false, true, true, false, false, false, false, false, false, false, false, false, false, false, false, false, false, false, false, false, false, false, false, false, false, false, false, false, false, false] l := rfl
attribute [go_sem] kt_code_Read_r
theorem kt_code_Read_j0 (l : List AV) : keepT i_code_Read_j0 l = keepT [false, false, true, false, false, false, false, true, false, false, false, false, false, false, false, false, false, false, false, false, false, false, false, false, false, false, false, false, false, false, false] l := rfl
attribute [go_sem] kt_code_Read_j0
theorem kt_coder_NewReader_r (l : List AV) : keepT i_coder_NewReader_r l = keepT [false, false, true, false, false, false, false] l := rfl
attribute [go_sem] kt_coder_NewReader_r
theorem kt_slices_Clone_sl_byte_byte_r (l : List AV) : keepT i_slices_Clone_sl_byte_byte_r l = keepT [false, false, true, false, false, false, false, false] l := rfl
attribute [go_sem] kt_slices_Clone_sl_byte_byte_r
theorem kt_code_Read_1_r (l : List AV) : keepT i_code_Read_1_r l = keepT [false, false, false, false, false, true, false, false, false, false, false, false, false, false, false, false, false, false, false, false, false, false, false, false, false, false, false, false, false, false, false, false, false, false, false, false, false, false, false, false, false, false, false, false, false, false, false, false, false, false, false, false, false, false, false, false, false, false, false, false, false, false, false, false] l := rfl
attribute [go_sem] kt_code_Read_1_r
theorem kt_code_Read_1_j0 (l : List AV) : keepT i_code_Read_1_j0 l = keepT [true, true, true, true, false, true, true, false, false, false, false, false, false, false, false, false, false, false, false, false, false, false, false, false, false, false, false, false, false, false, false, false, false, false, false, false, false, false, false, false, false, false, false, false, false, false, false, false, false, false, false, false, false, false, false, false, false, false, false, false, false, false, false, false] l := rfl
attribute [go_sem] kt_code_Read_1_j0
theorem kt_coder_Reader_Byte_r (l : List AV) : keepT i_coder_Reader_Byte_r l = keepT [false, false, true, false, false, false, false, false, false, false, false, false] l := rfl
attribute [go_sem] kt_coder_Reader_Byte_r
theorem kt_coder_Reader_take_r (l : List AV) : keepT i_coder_Reader_take_r l = keepT [false, false, false, false, true, false, false, false, false, false, false, false, false, false, false, false, false, false, false, false, false, false, false, false, false, false, false, false, false, false, false, false, false, false, false, false, false, false, false] l := rfl
attribute [go_sem] kt_coder_Reader_take_r
theorem kt_coder_Reader_Bytes_r (l : List AV) : keepT i_coder_Reader_Bytes_r l = keepT [false, false, false, false, true, false, false, false, false, false, false, false, false, false, false, false, false, false, false, false, false, false, false, false, false, false, false, false, false, false, false, false, false, false, false, false, false, false, false] l := rfl
attribute [go_sem] kt_coder_Reader_Bytes_r
theorem kt_coder_Reader_Number_r (l : List AV) : keepT i_coder_Reader_Number_r l = keepT [false, false, true, false, false, false, false, false, false, false, false, false, false, false, false, false, false, false, false, false, false, false, false, false, false, false, false, false, false, false, false, false, false, false, false, false, false, false, false, false, false, false, false, false, false, false, false, false] l := rfl
attribute [go_sem] kt_coder_Reader_Number_r
theorem kt_coder_Reader_Number_j1 (l : List AV) : keepT i_coder_Reader_Number_j1 l = keepT [true, false, false, false, true, true, false, false, false, false, false, false, false, false, false, false, false, false, false, true, true, true, false, false, false, false, false, false, false, false, false, false, false, false, false, false, false, false, false, false, false, false, false, false, false, false, false, false] l := rfl
attribute [go_sem] kt_coder_Reader_Number_j1
theorem kt_coder_Reader_Number_k0 (l : List AV) : keepT i_coder_Reader_Number_k0 l = keepT [true, false, false, false, true, true, false, false, false, false, false, false, false, false, false, false, false, false, false, true, true, true, false, false, false, false, false, false, false, false, false, false, false, false, false, false, false, false, false, false, false, false, false, false, false, false, false, false] l := rfl
attribute [go_sem] kt_coder_Reader_Number_k0
theorem kt_coder_Reader_Number_j0 (l : List AV) : keepT i_coder_Reader_Number_j0 l = keepT [true, false, false, false, true, true, false, false, false, false, false, false, false, false, false, false, false, false, false, false, false, false, false, false, false, false, false, false, false, false, false, false, false, false, false, false, false, false, false, false, false, false, false, false, false, false, false, false] l := rfl
attribute [go_sem] kt_coder_Reader_Number_j0
theorem kt_coder_Reader_End_r (l : List AV) : keepT i_coder_Reader_End_r l = keepT [false, false, true, false, false, false, false, false, false, false, false, false, false, false, false, false, false] l := rfl
attribute [go_sem] kt_coder_Reader_End_r
theorem kt_coder_Reader_End_j0 (l : List AV) : keepT i_coder_Reader_End_j0 l = keepT [false, false, false, false, false, false, false, false, false, false, false, false, false, false, false, false, false] l := rfl
attribute [go_sem] kt_coder_Reader_End_j0
theorem kt_law10_small_r (l : List AV) : keepT i_law10_small_r l = keepT [false, false, true, false, false, false] l := rfl
attribute [go_sem] kt_law10_small_r
theorem kt_ref04_Light_r (l : List AV) : keepT i_ref04_Light_r l = keepT [false, false, false, false, false, false, true, false, false, false, false, false, false, false, false, false, false, false, false, false, false, false, false, false, false, false, false, false, false, false, false, false, false, false, false, false, false, false, false, false, false, false, false, false, false, false, false, false, false, false, false, false, false, false, false, false, false, false, false, false] l := rfl
attribute [go_sem] kt_ref04_Light_r
theorem kt_ref04_Light_j1 (l : List AV) : keepT i_ref04_Light_j1 l = keepT [false, true, true, true, false, false, false, true, false, false, false, false, false, false, false, false, false, false, false, false, false, false, false, false, false, false, false, false, false, false, false, false, false, false, false, false, false, false, false, false, false, false, false, false, false, false, false, false, false, false, false, false, false, false, false, false, false, false, false, false] l := rfl
attribute [go_sem] kt_ref04_Light_j1
theorem kt_ref04_Light_k0 (l : List AV) : keepT i_ref04_Light_k0 l = keepT [false, true, true, true, false, false, false, true, false, false, false, false, false, false, false, false, false, false, false, false, false, false, false, false, false, false, false, false, false, false, false, false, false, false, false, false, false, false, false, false, false, false, false, false, false, false, false, false, false, false, false, false, false, false, false, false, false, false, false, false] l := rfl
attribute [go_sem] kt_ref04_Light_k0
theorem kt_ref04_Light_j0 (l : List AV) : keepT i_ref04_Light_j0 l = keepT [false, true, false, false, false, false, false, false, false, false, false, false, false, false, false, false, false, false, false, false, false, false, false, false, false, false, false, false, false, false, false, false, false, false, false, false, false, false, false, false, false, false, false, false, false, false, false, false, false, false, false, false, false, false, false, false, false, false, false, false] l := rfl
attribute [go_sem] kt_ref04_Light_j0
theorem kt_ref10_Write_r (l : List AV) : keepT i_ref10_Write_r l = keepT [false, false, true, true, false, false, false, false, false, false, false, false, false, false, false, false] l := rfl
attribute [go_sem] kt_ref10_Write_r
theorem kt_ref04_Check_r (l : List AV) : keepT i_ref04_Check_r l = keepT [false, false, true, false, false, false, false, false, false, false, false, false] l := rfl
attribute [go_sem] kt_ref04_Check_r
theorem kt_ref04_Deep_r (l : List AV) : keepT i_ref04_Deep_r l = keepT [false, false, false, false, true, false, false, false, false, false, false, false, false, false, false, false, false, false, false, false, false, false, false, false, false, false, false, false, false, false, false, false, false, false, false, false, false, false, false, false, false, false, false] l := rfl
attribute [go_sem] kt_ref04_Deep_r
theorem kt_ref04_Deep_j1 (l : List AV) : keepT i_ref04_Deep_j1 l = keepT [false, true, true, false, false, false, true, false, false, false, false, false, false, false, false, false, false, false, false, false, false, false, false, false, false, false, false, false, false, false, false, false, false, false, false, false, false, false, false, false, false, false, false] l := rfl
attribute [go_sem] kt_ref04_Deep_j1
theorem kt_ref04_Deep_k0 (l : List AV) : keepT i_ref04_Deep_k0 l = keepT [false, true, true, false, false, false, true, false, false, false, false, false, false, false, false, false, false, false, false, false, false, false, false, false, false, false, false, false, false, false, false, false, false, false, false, false, false, false, false, false, false, false, false] l := rfl
attribute [go_sem] kt_ref04_Deep_k0
theorem kt_ref04_Deep_j0 (l : List AV) : keepT i_ref04_Deep_j0 l = keepT [false, false, false, false, false, false, false, false, false, false, false, false, false, false, false, false, false, false, false, false, false, false, false, false, false, false, false, false, false, false, false, false, false, false, false, false, false, false, false, false, false, false, false] l := rfl
attribute [go_sem] kt_ref04_Deep_j0
theorem kt_ref04_Formed_r (l : List AV) : keepT i_ref04_Formed_r l = keepT [false, false, true, false, false, false, false, false, false, false, false, false, false, false, false, false, false, false, false, false, false, false, false, false, false, false, false, false, false, false, false, false, false, false, false, false, false, false, false, false, false, false, false, false, false, false, false, false, false, false, false, false, false, false, false, false, false, false, false, false, false, false, false, false, false, false, false, false, false, false, false, false, false, false, false, false, false, false, false, false, false, false, false, false, false, false, false, false, false, false, false, false, false, false] l := rfl
attribute [go_sem] kt_ref04_Formed_r
theorem kt_ref04_Formed_j0 (l : List AV) : keepT i_ref04_Formed_j0 l = keepT [false, true, false, false, false, false, true, true, false, false, false, false, false, false, false, false, false, false, false, false, false, false, false, false, false, false, false, false, false, false, false, false, false, false, false, false, false, false, false, false, false, false, false, false, false, false, false, false, false, false, false, false, false, false, false, false, false, false, false, false, false, false, false, false, false, false, false, false, false, false, false, false, false, false, false, false, false, false, false, false, false, false, false, false, false, false, false, false, false, false, false, false, false, false] l := rfl
attribute [go_sem] kt_ref04_Formed_j0
theorem kt_ref04_Formed_j2 (l : List AV) : keepT i_ref04_Formed_j2 l = keepT [false, true, false, false, false, false, true, true, true, false, false, false, false, false, false, false, false, false, false, false, false, false, false, false, false, false, false, false, false, false, false, false, false, false, false, false, false, false, false, false, false, false, false, false, false, false, false, false, false, false, false, false, false, false, false, false, false, false, false, false, false, false, false, false, false, false, false, false, false, false, false, false, false, false, false, false, false, false, false, false, false, false, false, false, false, false, false, false, false, false, false, false, false, false] l := rfl
attribute [go_sem] kt_ref04_Formed_j2
theorem kt_ref04_Formed_k0 (l : List AV) : keepT i_ref04_Formed_k0 l = keepT [false, true, false, false, false, false, true, true, true, false, false, false, false, false, false, false, false, false, false, false, false, false, false, false, false, false, false, false, false, false, false, false, false, false, false, false, false, false, false, false, false, false, false, false, false, false, false, false, false, false, false, false, false, false, false, false, false, false, false, false, false, false, false, false, false, false, false, false, false, false, false, false, false, false, false, false, false, false, false, false, false, false, false, false, false, false, false, false, false, false, false, false, false, false] l := rfl
attribute [go_sem] kt_ref04_Formed_k0
theorem kt_ref04_Formed_j1 (l : List AV) : keepT i_ref04_Formed_j1 l = keepT [false, false, false, false, false, false, false, true, false, false, false, false, false, false, false, false, false, false, false, false, false, false, false, false, false, false, false, false, false, false, false, false, false, false, false, false, false, false, false, false, false, false, false, false, false, false, false, false, false, false, false, false, false, false, false, false, false, false, false, false, false, false, false, false, false, false, false, false, false, false, false, false, false, false, false, false, false, false, false, false, false, false, false, false, false, false, false, false, false, false, false, false, false, false] l := rfl
attribute [go_sem] kt_ref04_Formed_j1
theorem kt_ref10_long_r (l : List AV) : keepT i_ref10_long_r l = keepT [false, false, true, false, false, false, false, false, false, false, false, false, false, false, false, false, false, false, false, false, false, false, false] l := rfl
attribute [go_sem] kt_ref10_long_r
theorem kt_ref10_long_j1 (l : List AV) : keepT i_ref10_long_j1 l = keepT [false, true, false, true, false, false, false, false, false, false, false, false, false, false, false, false, false, false, false, false, false, false, false] l := rfl
attribute [go_sem] kt_ref10_long_j1
theorem kt_ref10_long_k0 (l : List AV) : keepT i_ref10_long_k0 l = keepT [false, true, false, true, false, false, false, false, false, false, false, false, false, false, false, false, false, false, false, false, false, false, false] l := rfl
attribute [go_sem] kt_ref10_long_k0
theorem kt_ref10_long_j0 (l : List AV) : keepT i_ref10_long_j0 l = keepT [false, false, false, false, false, false, false, false, false, false, false, false, false, false, false, false, false, false, false, false, false, false, false] l := rfl
attribute [go_sem] kt_ref10_long_j0
theorem kt_ref10_bytes_r (l : List AV) : keepT i_ref10_bytes_r l = keepT [false, false, true, false, false, false, false, false, false, false, false, false, false, false, false, false, false, false, false, false, false, false, false, false, false, false, false, false, false, false, false, false, false, false, false, false, false, false, false, false, false, false, false, false, false, false, false, false, false, false, false, false, false, false] l := rfl
attribute [go_sem] kt_ref10_bytes_r
theorem kt_ref10_bytes_j1 (l : List AV) : keepT i_ref10_bytes_j1 l = keepT [false, true, false, true, true, false, false, false, false, false, false, false, false, false, false, false, false, false, false, false, false, false, false, false, false, false, false, false, false, false, false, false, false, false, false, false, false, false, false, false, false, false, false, false, false, false, false, false, false, false, false, false, false, false] l := rfl
attribute [go_sem] kt_ref10_bytes_j1
theorem kt_ref10_bytes_k0 (l : List AV) : keepT i_ref10_bytes_k0 l = keepT [false, true, false, true, true, false, false, false, false, false, false, false, false, false, false, false, false, false, false, false, false, false, false, false, false, false, false, false, false, false, false, false, false, false, false, false, false, false, false, false, false, false, false, false, false, false, false, false, false, false, false, false, false, false] l := rfl
attribute [go_sem] kt_ref10_bytes_k0
theorem kt_ref10_bytes_j0 (l : List AV) : keepT i_ref10_bytes_j0 l = keepT [false, false, false, true, false, false, false, false, false, false, false, false, false, false, false, false, false, false, false, false, false, false, false, false, false, false, false, false, false, false, false, false, false, false, false, false, false, false, false, false, false, false, false, false, false, false, false, false, false, false, false, false, false, false] l := rfl
attribute [go_sem] kt_ref10_bytes_j0
theorem kt_ref02_Bytes_r (l : List AV) : keepT i_ref02_Bytes_r l = keepT [false, false, true, false, false, false, false, false, false] l := rfl
attribute [go_sem] kt_ref02_Bytes_r
theorem kt_ref02_Number_r (l : List AV) : keepT i_ref02_Number_r l = keepT [false, false, true, false, false, false, false, false, false, false, false, false, false, false, false, false, false, false, false, false, false, false, false, false, false, false] l := rfl
attribute [go_sem] kt_ref02_Number_r
theorem kt_ref02_Number_j1 (l : List AV) : keepT i_ref02_Number_j1 l = keepT [true, false, false, true, false, false, false, false, false, false, false, false, false, false, false, false, false, false, false, false, false, false, false, false, false, false] l := rfl
attribute [go_sem] kt_ref02_Number_j1
theorem kt_ref02_Number_k0 (l : List AV) : keepT i_ref02_Number_k0 l = keepT [true, false, false, true, false, false, false, false, false, false, false, false, false, false, false, false, false, false, false, false, false, false, false, false, false, false] l := rfl
attribute [go_sem] kt_ref02_Number_k0
theorem kt_ref02_Number_j0 (l : List AV) : keepT i_ref02_Number_j0 l = keepT [false, false, false, true, false, false, false, false, false, false, false, false, false, false, false, false, false, false, false, false, false, false, false, false, false, false] l := rfl
attribute [go_sem] kt_ref02_Number_j0
theorem kt_law00_Code_r (l : List AV) : keepT i_law00_Code_r l = keepT [false, false, true, false, false, false, false, false, false, false, false, false, false, false, false] l := rfl
attribute [go_sem] kt_law00_Code_r
theorem kt_law00_Code_j1 (l : List AV) : keepT i_law00_Code_j1 l = keepT [true, false, false, true, false, false, false, false, false, false, false, false, false, false, false] l := rfl
attribute [go_sem] kt_law00_Code_j1
theorem kt_law00_Code_k0 (l : List AV) : keepT i_law00_Code_k0 l = keepT [true, false, false, true, false, false, false, false, false, false, false, false, false, false, false] l := rfl
attribute [go_sem] kt_law00_Code_k0
theorem kt_law00_Code_j0 (l : List AV) : keepT i_law00_Code_j0 l = keepT [false, false, false, false, false, false, false, false, false, false, false, false, false, false, false] l := rfl
attribute [go_sem] kt_law00_Code_j0
theorem kt_law10_CodeReads_r (l : List AV) : keepT i_law10_CodeReads_r l = keepT [false, false, true, false, false, false, false, false, false, false, false, false, false, false, false, false, false, false, false, false, false, false, false, false, false, false, false, false, false, false, false, false, false, false, false] l := rfl
attribute [go_sem] kt_law10_CodeReads_r
theorem kt_ref10_Read_r (l : List AV) : keepT i_ref10_Read_r l = keepT [false, false, true, true, false, false, false, false, false, false, false, false, false, false, false, false, false, false, false] l := rfl
attribute [go_sem] kt_ref10_Read_r
theorem kt_ref10_read_r (l : List AV) : keepT i_ref10_read_r l = keepT [false, false, false, false, true, false, false, false, false, false, false, false, false, false, false, false, false, false, false, false, false, false, false, false, false, false, false, false, false, false, false, false, false, false, false, false, false, false, false, false, false, false, false, false, false, false, false, false, false, false, false, false, false, false, false, false, false, false, false, false, false, false, false, false, false, false, false, false, false, false, false, false, false, false, false, false, false] l := rfl
attribute [go_sem] kt_ref10_read_r
theorem kt_ref02_Reader_Byte_r (l : List AV) : keepT i_ref02_Reader_Byte_r l = keepT [false, false, true, false, false, false, false, false, false, false, false, false, false, false, false, false, false, false, false, false, false, false, false, false, false, false, false, false, false, false, false, false, false, false, false, false, false, false, false, false] l := rfl
attribute [go_sem] kt_ref02_Reader_Byte_r
theorem kt_ref02_Reader_Bytes_r (l : List AV) : keepT i_ref02_Reader_Bytes_r l = keepT [false, false, false, false, true, false, false, false, false, false, false, false, false, false, false, false, false, false, false, false, false, false, false, false, false, false, false, false, false, false, false, false, false, false, false, false, false, false, false, false, false, false, false, false, false, false, false, false, false, false, false, false, false, false, false, false, false, false, false, false, false, false, false, false, false, false, false, false, false, false] l := rfl
attribute [go_sem] kt_ref02_Reader_Bytes_r
theorem kt_ref02_Reader_Number_r (l : List AV) : keepT i_ref02_Reader_Number_r l = keepT [false, false, true, false, false, false, false, false, false, false, false, false, false, false, false, false, false, false, false, false, false, false, false, false, false, false, false, false, false, false, false, false, false, false, false, false, false, false, false, false, false, false, false, false, false, false, false, false, false, false, false, false, false, false, false, false, false, false, false, false, false, false, false, false, false, false, false, false, false, false, false, false, false, false, false, false, false, false, false, false, false, false, false, false, false, false] l := rfl
attribute [go_sem] kt_ref02_Reader_Number_r
theorem kt_ref02_Reader_Number_j1 (l : List AV) : keepT i_ref02_Reader_Number_j1 l = keepT [true, false, false, false, true, true, true, false, false, false, false, false, false, false, false, false, false, false, false, false, false, false, false, false, false, false, false, false, false, false, false, false, false, false, false, false, false, false, false, false, false, false, false, false, false, false, false, false, false, false, false, false, false, false, false, false, false, false, false, false, false, false, false, false, false, false, false, false, false, false, false, false, false, false, false, false, false, false, false, false, false, false, false, false, false, false] l := rfl
attribute [go_sem] kt_ref02_Reader_Number_j1
theorem kt_ref02_Reader_Number_k0 (l : List AV) : keepT i_ref02_Reader_Number_k0 l = keepT [true, false, false, false, true, true, true, false, false, false, false, false, false, false, false, false, false, false, false, false, false, false, false, false, false, false, false, false, false, false, false, false, false, false, false, false, false, false, false, false, false, false, false, false, false, false, false, false, false, false, false, false, false, false, false, false, false, false, false, false, false, false, false, false, false, false, false, false, false, false, false, false, false, false, false, false, false, false, false, false, false, false, false, false, false, false] l := rfl
attribute [go_sem] kt_ref02_Reader_Number_k0
theorem kt_ref02_Reader_Number_j0 (l : List AV) : keepT i_ref02_Reader_Number_j0 l = keepT [true, false, false, false, true, true, false, false, false, false, false, false, false, false, false, false, false, false, false, false, false, false, false, false, false, false, false, false, false, false, false, false, false, false, false, false, false, false, false, false, false, false, false, false, false, false, false, false, false, false, false, false, false, false, false, false, false, false, false, false, false, false, false, false, false, false, false, false, false, false, false, false, false, false, false, false, false, false, false, false, false, false, false, false, false, false] l := rfl
attribute [go_sem] kt_ref02_Reader_Number_j0
theorem kt_ref02_Reader_End_r (l : List AV) : keepT i_ref02_Reader_End_r l = keepT [false, false, true, false, false, false, false, false, false, false, false, false, false, false, false, false, false] l := rfl
attribute [go_sem] kt_ref02_Reader_End_r
theorem kt_ref04_Same_r (l : List AV) : keepT i_ref04_Same_r l = keepT [false, false, false, false, true, false, false, false, false, false, false, false, false, false, false, false, false, false, false, false, false, false, false, false, false, false, false, false, false, false, false, false, false, false, false, false, false, false, false, false, false, false, false, false, false, false, false, false, false, false, false, false, false, false, false, false, false, false, false, false, false, false, false, false, false, false, false, false] l := rfl
attribute [go_sem] kt_ref04_Same_r
theorem kt_ref04_Same_j1 (l : List AV) : keepT i_ref04_Same_j1 l = keepT [false, false, true, true, false, true, false, false, false, false, false, false, false, false, false, false, false, false, false, false, false, false, false, false, false, false, false, false, false, false, false, false, false, false, false, false, false, false, false, false, false, false, false, false, false, false, false, false, false, false, false, false, false, false, false, false, false, false, false, false, false, false, false, false, false, false, false, false] l := rfl
attribute [go_sem] kt_ref04_Same_j1
theorem kt_ref04_Same_k0 (l : List AV) : keepT i_ref04_Same_k0 l = keepT [false, false, true, true, false, true, false, false, false, false, false, false, false, false, false, false, false, false, false, false, false, false, false, false, false, false, false, false, false, false, false, false, false, false, false, false, false, false, false, false, false, false, false, false, false, false, false, false, false, false, false, false, false, false, false, false, false, false, false, false, false, false, false, false, false, false, false, false] l := rfl
attribute [go_sem] kt_ref04_Same_k0
theorem kt_ref04_Same_j0 (l : List AV) : keepT i_ref04_Same_j0 l = keepT [false, false, false, false, false, false, false, false, false, false, false, false, false, false, false, false, false, false, false, false, false, false, false, false, false, false, false, false, false, false, false, false, false, false, false, false, false, false, false, false, false, false, false, false, false, false, false, false, false, false, false, false, false, false, false, false, false, false, false, false, false, false, false, false, false, false, false, false] l := rfl
attribute [go_sem] kt_ref04_Same_j0
theorem kt_law10_CodeBack_r (l : List AV) : keepT i_law10_CodeBack_r l = keepT [false, false, false, false, false, false, true, false, false, false, false, false, false, false, false, false, false, false, false, false, false, false, false, false, false, false, false, false, false, false, false, false, false, false, false, false, false, false, false, false, false, false, false, false, false, false, false, false, false, false, false, false, false, false, false, false, false, false, false, false, false, false, false, false, false, false, false, false, false, false, false, false, false, false, false, false, false, false, false, false, false, false, false, false, false, false, false, false, false, false, false, false, false, false, false, false, false, false, false, false, false, false, false, false, false, false, false, false, false, false] l := rfl
attribute [go_sem] kt_law10_CodeBack_r
noncomputable def L_slices_IndexFunc_sl_api_Tree_api_Tree_0 (st : St) : Option (Ex × St) := lp tab G0 0 i_slices_IndexFunc_sl_api_Tree_api_Tree_k0 i_slices_IndexFunc_sl_api_Tree_api_Tree_b0 st
theorem L_slices_IndexFunc_sl_api_Tree_api_Tree_0_eq (st : St) : L_slices_IndexFunc_sl_api_Tree_api_Tree_0 st = againL L_slices_IndexFunc_sl_api_Tree_api_Tree_0 0 i_slices_IndexFunc_sl_api_Tree_api_Tree_k0 (app tab G0 0 [] (ex tab G0 0 i_slices_IndexFunc_sl_api_Tree_api_Tree_b0 st)) := lp_eq tab G0 0 i_slices_IndexFunc_sl_api_Tree_api_Tree_k0 i_slices_IndexFunc_sl_api_Tree_api_Tree_b0 st
theorem L_slices_IndexFunc_sl_api_Tree_api_Tree_0_in (K : List Fr) (st : St) : app tab G0 0 K (ex tab G0 0 (.loop i_slices_IndexFunc_sl_api_Tree_api_Tree_k0 i_slices_IndexFunc_sl_api_Tree_api_Tree_b0) st) = app tab G0 0 K (L_slices_IndexFunc_sl_api_Tree_api_Tree_0 (clean 0 i_slices_IndexFunc_sl_api_Tree_api_Tree_k0 st)) := rfl
attribute [go_sem] L_slices_IndexFunc_sl_api_Tree_api_Tree_0_in
noncomputable def L_code_long_0 (st : St) : Option (Ex × St) := lp tab G0 2 i_code_long_k0 i_code_long_b0 st
theorem L_code_long_0_eq (st : St) : L_code_long_0 st = againL L_code_long_0 2 i_code_long_k0 (app tab G0 2 [] (ex tab G0 2 i_code_long_b0 st)) := lp_eq tab G0 2 i_code_long_k0 i_code_long_b0 st
theorem L_code_long_0_in (K : List Fr) (st : St) : app tab G0 2 K (ex tab G0 2 (.loop i_code_long_k0 i_code_long_b0) st) = app tab G0 2 K (L_code_long_0 (clean 2 i_code_long_k0 st)) := rfl
attribute [go_sem] L_code_long_0_in
noncomputable def L_code_write_0 (st : St) : Option (Ex × St) := lp tab G0 4 i_code_write_k0 i_code_write_b0 st
theorem L_code_write_0_eq (st : St) : L_code_write_0 st = againL L_code_write_0 4 i_code_write_k0 (app tab G0 4 [] (ex tab G0 4 i_code_write_b0 st)) := lp_eq tab G0 4 i_code_write_k0 i_code_write_b0 st
theorem L_code_write_0_in (K : List Fr) (st : St) : app tab G0 4 K (ex tab G0 4 (.loop i_code_write_k0 i_code_write_b0) st) = app tab G0 4 K (L_code_write_0 (clean 4 i_code_write_k0 st)) := rfl
attribute [go_sem] L_code_write_0_in
noncomputable def L_coder_Number_0 (st : St) : Option (Ex × St) := lp tab G0 1 i_coder_Number_k0 i_coder_Number_b0 st
theorem L_coder_Number_0_eq (st : St) : L_coder_Number_0 st = againL L_coder_Number_0 1 i_coder_Number_k0 (app tab G0 1 [] (ex tab G0 1 i_coder_Number_b0 st)) := lp_eq tab G0 1 i_coder_Number_k0 i_coder_Number_b0 st
theorem L_coder_Number_0_in (K : List Fr) (st : St) : app tab G0 1 K (ex tab G0 1 (.loop i_coder_Number_k0 i_coder_Number_b0) st) = app tab G0 1 K (L_coder_Number_0 (clean 1 i_coder_Number_k0 st)) := rfl
attribute [go_sem] L_coder_Number_0_in
noncomputable def L_coder_Number_1 (st : St) : Option (Ex × St) := lp tab G0 1 i_coder_Number_k1 i_coder_Number_b1 st
theorem L_coder_Number_1_eq (st : St) : L_coder_Number_1 st = againL L_coder_Number_1 1 i_coder_Number_k1 (app tab G0 1 [] (ex tab G0 1 i_coder_Number_b1 st)) := lp_eq tab G0 1 i_coder_Number_k1 i_coder_Number_b1 st
theorem L_coder_Number_1_in (K : List Fr) (st : St) : app tab G0 1 K (ex tab G0 1 (.loop i_coder_Number_k1 i_coder_Number_b1) st) = app tab G0 1 K (L_coder_Number_1 (clean 1 i_coder_Number_k1 st)) := rfl
attribute [go_sem] L_coder_Number_1_in
noncomputable def L_coder_Reader_Number_0 (st : St) : Option (Ex × St) := lp tab G0 0 i_coder_Reader_Number_k0 i_coder_Reader_Number_b0 st
theorem L_coder_Reader_Number_0_eq (st : St) : L_coder_Reader_Number_0 st = againL L_coder_Reader_Number_0 0 i_coder_Reader_Number_k0 (app tab G0 0 [] (ex tab G0 0 i_coder_Reader_Number_b0 st)) := lp_eq tab G0 0 i_coder_Reader_Number_k0 i_coder_Reader_Number_b0 st
theorem L_coder_Reader_Number_0_in (K : List Fr) (st : St) : app tab G0 0 K (ex tab G0 0 (.loop i_coder_Reader_Number_k0 i_coder_Reader_Number_b0) st) = app tab G0 0 K (L_coder_Reader_Number_0 (clean 0 i_coder_Reader_Number_k0 st)) := rfl
attribute [go_sem] L_coder_Reader_Number_0_in
noncomputable def L_ref04_Light_0 (st : St) : Option (Ex × St) := lp tab G0 1 i_ref04_Light_k0 i_ref04_Light_b0 st
theorem L_ref04_Light_0_eq (st : St) : L_ref04_Light_0 st = againL L_ref04_Light_0 1 i_ref04_Light_k0 (app tab G0 1 [] (ex tab G0 1 i_ref04_Light_b0 st)) := lp_eq tab G0 1 i_ref04_Light_k0 i_ref04_Light_b0 st
theorem L_ref04_Light_0_in (K : List Fr) (st : St) : app tab G0 1 K (ex tab G0 1 (.loop i_ref04_Light_k0 i_ref04_Light_b0) st) = app tab G0 1 K (L_ref04_Light_0 (clean 1 i_ref04_Light_k0 st)) := rfl
attribute [go_sem] L_ref04_Light_0_in
noncomputable def L_ref04_Deep_0 (st : St) : Option (Ex × St) := lp tab G0 1 i_ref04_Deep_k0 i_ref04_Deep_b0 st
theorem L_ref04_Deep_0_eq (st : St) : L_ref04_Deep_0 st = againL L_ref04_Deep_0 1 i_ref04_Deep_k0 (app tab G0 1 [] (ex tab G0 1 i_ref04_Deep_b0 st)) := lp_eq tab G0 1 i_ref04_Deep_k0 i_ref04_Deep_b0 st
theorem L_ref04_Deep_0_in (K : List Fr) (st : St) : app tab G0 1 K (ex tab G0 1 (.loop i_ref04_Deep_k0 i_ref04_Deep_b0) st) = app tab G0 1 K (L_ref04_Deep_0 (clean 1 i_ref04_Deep_k0 st)) := rfl
attribute [go_sem] L_ref04_Deep_0_in
noncomputable def L_ref04_Formed_0 (st : St) : Option (Ex × St) := lp tab G0 1 i_ref04_Formed_k0 i_ref04_Formed_b0 st
theorem L_ref04_Formed_0_eq (st : St) : L_ref04_Formed_0 st = againL L_ref04_Formed_0 1 i_ref04_Formed_k0 (app tab G0 1 [] (ex tab G0 1 i_ref04_Formed_b0 st)) := lp_eq tab G0 1 i_ref04_Formed_k0 i_ref04_Formed_b0 st
theorem L_ref04_Formed_0_in (K : List Fr) (st : St) : app tab G0 1 K (ex tab G0 1 (.loop i_ref04_Formed_k0 i_ref04_Formed_b0) st) = app tab G0 1 K (L_ref04_Formed_0 (clean 1 i_ref04_Formed_k0 st)) := rfl
attribute [go_sem] L_ref04_Formed_0_in
noncomputable def L_ref10_long_0 (st : St) : Option (Ex × St) := lp tab G0 1 i_ref10_long_k0 i_ref10_long_b0 st
theorem L_ref10_long_0_eq (st : St) : L_ref10_long_0 st = againL L_ref10_long_0 1 i_ref10_long_k0 (app tab G0 1 [] (ex tab G0 1 i_ref10_long_b0 st)) := lp_eq tab G0 1 i_ref10_long_k0 i_ref10_long_b0 st
theorem L_ref10_long_0_in (K : List Fr) (st : St) : app tab G0 1 K (ex tab G0 1 (.loop i_ref10_long_k0 i_ref10_long_b0) st) = app tab G0 1 K (L_ref10_long_0 (clean 1 i_ref10_long_k0 st)) := rfl
attribute [go_sem] L_ref10_long_0_in
noncomputable def L_ref10_bytes_0 (st : St) : Option (Ex × St) := lp tab G0 2 i_ref10_bytes_k0 i_ref10_bytes_b0 st
theorem L_ref10_bytes_0_eq (st : St) : L_ref10_bytes_0 st = againL L_ref10_bytes_0 2 i_ref10_bytes_k0 (app tab G0 2 [] (ex tab G0 2 i_ref10_bytes_b0 st)) := lp_eq tab G0 2 i_ref10_bytes_k0 i_ref10_bytes_b0 st
theorem L_ref10_bytes_0_in (K : List Fr) (st : St) : app tab G0 2 K (ex tab G0 2 (.loop i_ref10_bytes_k0 i_ref10_bytes_b0) st) = app tab G0 2 K (L_ref10_bytes_0 (clean 2 i_ref10_bytes_k0 st)) := rfl
attribute [go_sem] L_ref10_bytes_0_in
noncomputable def L_ref02_Number_0 (st : St) : Option (Ex × St) := lp tab G0 2 i_ref02_Number_k0 i_ref02_Number_b0 st
theorem L_ref02_Number_0_eq (st : St) : L_ref02_Number_0 st = againL L_ref02_Number_0 2 i_ref02_Number_k0 (app tab G0 2 [] (ex tab G0 2 i_ref02_Number_b0 st)) := lp_eq tab G0 2 i_ref02_Number_k0 i_ref02_Number_b0 st
theorem L_ref02_Number_0_in (K : List Fr) (st : St) : app tab G0 2 K (ex tab G0 2 (.loop i_ref02_Number_k0 i_ref02_Number_b0) st) = app tab G0 2 K (L_ref02_Number_0 (clean 2 i_ref02_Number_k0 st)) := rfl
attribute [go_sem] L_ref02_Number_0_in
noncomputable def L_law00_Code_0 (st : St) : Option (Ex × St) := lp tab G0 0 i_law00_Code_k0 i_law00_Code_b0 st
theorem L_law00_Code_0_eq (st : St) : L_law00_Code_0 st = againL L_law00_Code_0 0 i_law00_Code_k0 (app tab G0 0 [] (ex tab G0 0 i_law00_Code_b0 st)) := lp_eq tab G0 0 i_law00_Code_k0 i_law00_Code_b0 st
theorem L_law00_Code_0_in (K : List Fr) (st : St) : app tab G0 0 K (ex tab G0 0 (.loop i_law00_Code_k0 i_law00_Code_b0) st) = app tab G0 0 K (L_law00_Code_0 (clean 0 i_law00_Code_k0 st)) := rfl
attribute [go_sem] L_law00_Code_0_in
noncomputable def L_ref02_Reader_Number_0 (st : St) : Option (Ex × St) := lp tab G0 0 i_ref02_Reader_Number_k0 i_ref02_Reader_Number_b0 st
theorem L_ref02_Reader_Number_0_eq (st : St) : L_ref02_Reader_Number_0 st = againL L_ref02_Reader_Number_0 0 i_ref02_Reader_Number_k0 (app tab G0 0 [] (ex tab G0 0 i_ref02_Reader_Number_b0 st)) := lp_eq tab G0 0 i_ref02_Reader_Number_k0 i_ref02_Reader_Number_b0 st
theorem L_ref02_Reader_Number_0_in (K : List Fr) (st : St) : app tab G0 0 K (ex tab G0 0 (.loop i_ref02_Reader_Number_k0 i_ref02_Reader_Number_b0) st) = app tab G0 0 K (L_ref02_Reader_Number_0 (clean 0 i_ref02_Reader_Number_k0 st)) := rfl
attribute [go_sem] L_ref02_Reader_Number_0_in
noncomputable def L_ref04_Same_0 (st : St) : Option (Ex × St) := lp tab G0 2 i_ref04_Same_k0 i_ref04_Same_b0 st
theorem L_ref04_Same_0_eq (st : St) : L_ref04_Same_0 st = againL L_ref04_Same_0 2 i_ref04_Same_k0 (app tab G0 2 [] (ex tab G0 2 i_ref04_Same_b0 st)) := lp_eq tab G0 2 i_ref04_Same_k0 i_ref04_Same_b0 st
theorem L_ref04_Same_0_in (K : List Fr) (st : St) : app tab G0 2 K (ex tab G0 2 (.loop i_ref04_Same_k0 i_ref04_Same_b0) st) = app tab G0 2 K (L_ref04_Same_0 (clean 2 i_ref04_Same_k0 st)) := rfl
attribute [go_sem] L_ref04_Same_0_in
end Go.Proofs.Ytebiajdkgpcidaa
