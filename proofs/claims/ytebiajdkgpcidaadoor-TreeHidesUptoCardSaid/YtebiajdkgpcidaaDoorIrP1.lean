/- More of the IR of the seat's functions. -/
import Derived.Test.YtebiajdkgpcidaaDoorIrP0
set_option linter.unusedVariables false
namespace Go.Proofs.YtebiajdkgpcidaaDoor
open Go.Ev

def i_ref04_Formed_r : List Bool := [false, false, true, false, false, false, false, false, false, false, false, false, false, false, false, false, false, false, false, false, false, false, false, false, false, false, false, false, false, false, false, false, false, false, false, false, false, false, false, false, false, false, false, false, false, false, false, false, false, false, false, false, false, false, false, false, false, false, false, false, false, false, false, false, false, false, false, false, false, false, false, false, false, false, false, false, false, false, false, false, false, false, false, false, false, false, false, false, false, false, false, false, false, false]
def i_ref04_Formed_j0 : List Bool := [false, true, false, false, false, false, true, true, false, false, false, false, false, false, false, false, false, false, false, false, false, false, false, false, false, false, false, false, false, false, false, false, false, false, false, false, false, false, false, false, false, false, false, false, false, false, false, false, false, false, false, false, false, false, false, false, false, false, false, false, false, false, false, false, false, false, false, false, false, false, false, false, false, false, false, false, false, false, false, false, false, false, false, false, false, false, false, false, false, false, false, false, false, false]
def i_ref04_Formed_j2 : List Bool := [false, true, false, false, false, false, true, true, true, false, false, false, false, false, false, false, false, false, false, false, false, false, false, false, false, false, false, false, false, false, false, false, false, false, false, false, false, false, false, false, false, false, false, false, false, false, false, false, false, false, false, false, false, false, false, false, false, false, false, false, false, false, false, false, false, false, false, false, false, false, false, false, false, false, false, false, false, false, false, false, false, false, false, false, false, false, false, false, false, false, false, false, false, false]
def i_ref04_Formed_k0 : List Bool := [false, true, false, false, false, false, true, true, true, false, false, false, false, false, false, false, false, false, false, false, false, false, false, false, false, false, false, false, false, false, false, false, false, false, false, false, false, false, false, false, false, false, false, false, false, false, false, false, false, false, false, false, false, false, false, false, false, false, false, false, false, false, false, false, false, false, false, false, false, false, false, false, false, false, false, false, false, false, false, false, false, false, false, false, false, false, false, false, false, false, false, false, false, false]
def i_ref04_Formed_j1 : List Bool := [false, false, false, false, false, false, false, true, false, false, false, false, false, false, false, false, false, false, false, false, false, false, false, false, false, false, false, false, false, false, false, false, false, false, false, false, false, false, false, false, false, false, false, false, false, false, false, false, false, false, false, false, false, false, false, false, false, false, false, false, false, false, false, false, false, false, false, false, false, false, false, false, false, false, false, false, false, false, false, false, false, false, false, false, false, false, false, false, false, false, false, false, false, false]
abbrev s_ref04_Formed_R (t2 : AV) (h : Heap) : St := ⟨[.undef, .undef, t2, .undef, .undef, .undef, .undef, .undef, .undef, .undef, .undef, .undef, .undef, .undef, .undef, .undef, .undef, .undef, .undef, .undef, .undef, .undef, .undef, .undef, .undef, .undef, .undef, .undef, .undef, .undef, .undef, .undef, .undef, .undef, .undef, .undef, .undef, .undef, .undef, .undef, .undef, .undef, .undef, .undef, .undef, .undef, .undef, .undef, .undef, .undef, .undef, .undef, .undef, .undef, .undef, .undef, .undef, .undef, .undef, .undef, .undef, .undef, .undef, .undef, .undef, .undef, .undef, .undef, .undef, .undef, .undef, .undef, .undef, .undef, .undef, .undef, .undef, .undef, .undef, .undef, .undef, .undef, .undef, .undef, .undef, .undef, .undef, .undef, .undef, .undef, .undef, .undef, .undef, .undef], h⟩
abbrev s_ref04_Formed_K0 (t1 t6 t7 t8 : AV) (h : Heap) : St := ⟨[.undef, t1, .undef, .undef, .undef, .undef, t6, t7, t8, .undef, .undef, .undef, .undef, .undef, .undef, .undef, .undef, .undef, .undef, .undef, .undef, .undef, .undef, .undef, .undef, .undef, .undef, .undef, .undef, .undef, .undef, .undef, .undef, .undef, .undef, .undef, .undef, .undef, .undef, .undef, .undef, .undef, .undef, .undef, .undef, .undef, .undef, .undef, .undef, .undef, .undef, .undef, .undef, .undef, .undef, .undef, .undef, .undef, .undef, .undef, .undef, .undef, .undef, .undef, .undef, .undef, .undef, .undef, .undef, .undef, .undef, .undef, .undef, .undef, .undef, .undef, .undef, .undef, .undef, .undef, .undef, .undef, .undef, .undef, .undef, .undef, .undef, .undef, .undef, .undef, .undef, .undef, .undef, .undef], h⟩
def i_ref04_Formed_b0 : IR :=
  (.seq
   (.seq
    (.reg [] [
      ⟨(some 79), .mv (.t 8), none, []⟩,
      ⟨(some 80), .mv (.t 6), none, []⟩,
      ⟨(some 81), .bin .plain .lss (.t 79) (.t 80), none, []⟩,
      ⟨(some 82), .mv (.t 81), none, []⟩,
      ⟨(some 83), .mv (.t 7), (some (82, true)), []⟩,
      ⟨(some 84), .pick (.t 82) (.t 83) (.k (.bool false)), none, []⟩])
    (.cond (.t 84)
     .skip
     (.exit 1 i_ref04_Formed_j1)))
   (.seq
    (.block 2 i_ref04_Formed_j2
     (.reg [] [
       ⟨(some 87), .fa 4 (.t 1), none, []⟩,
       ⟨(some 88), .load false 1 (.t 87), none, []⟩,
       ⟨(some 89), .mv (.t 8), none, []⟩,
       ⟨(some 90), .ia 5 (.t 88) (.t 89), none, []⟩,
       ⟨(some 91), .load true 5 (.t 90), none, []⟩,
       ⟨(some 92), .qcall n_ref04_Formed [(.t 91)] [], none, []⟩,
       ⟨(some 7), .mv (.t 92), none, []⟩]))
    (.reg [] [
      ⟨(some 85), .mv (.t 8), none, []⟩,
      ⟨(some 86), .bin .plain .add (.t 85) (.k (.int .i64 1)), none, []⟩,
      ⟨(some 8), .mv (.t 86), none, []⟩])))

abbrev s_ref04_Formed_J1 (t7 : AV) (h : Heap) : St := ⟨[.undef, .undef, .undef, .undef, .undef, .undef, .undef, t7, .undef, .undef, .undef, .undef, .undef, .undef, .undef, .undef, .undef, .undef, .undef, .undef, .undef, .undef, .undef, .undef, .undef, .undef, .undef, .undef, .undef, .undef, .undef, .undef, .undef, .undef, .undef, .undef, .undef, .undef, .undef, .undef, .undef, .undef, .undef, .undef, .undef, .undef, .undef, .undef, .undef, .undef, .undef, .undef, .undef, .undef, .undef, .undef, .undef, .undef, .undef, .undef, .undef, .undef, .undef, .undef, .undef, .undef, .undef, .undef, .undef, .undef, .undef, .undef, .undef, .undef, .undef, .undef, .undef, .undef, .undef, .undef, .undef, .undef, .undef, .undef, .undef, .undef, .undef, .undef, .undef, .undef, .undef, .undef, .undef, .undef], h⟩
/-- heartwood/heartwoodref04.Formed -/
def i_ref04_Formed : Ev.Fn := ⟨1, 94, 1,
  (.seq
   (.reg [] [
     ⟨(some 1), .box 0 5 (.t 0), none, []⟩,
     ⟨(some 2), .mv (.k (.bool false)), none, []⟩])
   (.seq
    (.reg [] [
      ⟨(some 9), .fa 1 (.t 1), none, []⟩,
      ⟨(some 10), .load false 1 (.t 9), none, []⟩,
      ⟨(some 11), .len false (.t 10), none, []⟩,
      ⟨(some 3), .mv (.t 11), none, []⟩])
    (.seq
     (.reg [] [
       ⟨(some 12), .fa 2 (.t 1), none, []⟩,
       ⟨(some 13), .load false 1 (.t 12), none, []⟩,
       ⟨(some 14), .len false (.t 13), none, []⟩,
       ⟨(some 4), .mv (.t 14), none, []⟩])
     (.seq
      (.reg [] [
        ⟨(some 15), .fa 3 (.t 1), none, []⟩,
        ⟨(some 16), .load false 1 (.t 15), none, []⟩,
        ⟨(some 17), .len false (.t 16), none, []⟩,
        ⟨(some 5), .mv (.t 17), none, []⟩])
      (.seq
       (.reg [] [
         ⟨(some 18), .fa 4 (.t 1), none, []⟩,
         ⟨(some 19), .load false 1 (.t 18), none, []⟩,
         ⟨(some 20), .len false (.t 19), none, []⟩,
         ⟨(some 6), .mv (.t 20), none, []⟩])
       (.seq
        (.reg [] [
          ⟨(some 7), .mv (.k (.bool false)), none, []⟩])
        (.seq
         (.seq
          (.reg [] [
            ⟨(some 21), .fa 0 (.t 1), none, []⟩,
            ⟨(some 22), .load false 1 (.t 21), none, []⟩])
          (.block 0 i_ref04_Formed_j0
           (.seq
            (.reg [] [
              ⟨(some 24), .bin .plain .eql (.t 22) (.k (.int .i64 0)), none, []⟩,
              ⟨(some 23), .mv (.t 24), none, []⟩])
            (.cond (.t 23)
             (.reg [] [
               ⟨(some 25), .mv (.t 3), none, []⟩,
               ⟨(some 26), .bin .plain .eql (.t 25) (.k (.int .i64 0)), none, []⟩,
               ⟨(some 27), .mv (.t 26), none, []⟩,
               ⟨(some 28), .mv (.t 4), (some (27, true)), []⟩,
               ⟨(some 29), .bin .plain .eql (.t 28) (.k (.int .i64 0)), (some (27, true)), []⟩,
               ⟨(some 30), .pick (.t 27) (.t 29) (.k (.bool false)), none, []⟩,
               ⟨(some 31), .mv (.t 30), none, []⟩,
               ⟨(some 32), .mv (.t 5), (some (31, true)), []⟩,
               ⟨(some 33), .bin .plain .eql (.t 32) (.k (.int .i64 0)), (some (31, true)), []⟩,
               ⟨(some 34), .pick (.t 31) (.t 33) (.k (.bool false)), none, []⟩,
               ⟨(some 35), .mv (.t 34), none, []⟩,
               ⟨(some 36), .mv (.t 6), (some (35, true)), []⟩,
               ⟨(some 37), .bin .plain .eql (.t 36) (.k (.int .i64 0)), (some (35, true)), []⟩,
               ⟨(some 38), .pick (.t 35) (.t 37) (.k (.bool false)), none, []⟩,
               ⟨(some 7), .mv (.t 38), none, []⟩])
             (.seq
              (.reg [] [
                ⟨(some 40), .bin .plain .eql (.t 22) (.k (.int .i64 1)), none, []⟩,
                ⟨(some 39), .mv (.t 40), none, []⟩])
              (.cond (.t 39)
               (.reg [] [
                 ⟨(some 41), .mv (.t 3), none, []⟩,
                 ⟨(some 42), .bin .plain .leq (.t 41) (.k (.int .i64 80)), none, []⟩,
                 ⟨(some 43), .mv (.t 42), none, []⟩,
                 ⟨(some 44), .mv (.t 4), (some (43, true)), []⟩,
                 ⟨(some 45), .bin .plain .leq (.t 44) (.k (.int .i64 1024)), (some (43, true)), []⟩,
                 ⟨(some 46), .pick (.t 43) (.t 45) (.k (.bool false)), none, []⟩,
                 ⟨(some 47), .mv (.t 46), none, []⟩,
                 ⟨(some 48), .mv (.t 5), (some (47, true)), []⟩,
                 ⟨(some 49), .bin .plain .eql (.t 48) (.k (.int .i64 0)), (some (47, true)), []⟩,
                 ⟨(some 50), .pick (.t 47) (.t 49) (.k (.bool false)), none, []⟩,
                 ⟨(some 51), .mv (.t 50), none, []⟩,
                 ⟨(some 52), .mv (.t 6), (some (51, true)), []⟩,
                 ⟨(some 53), .bin .plain .eql (.t 52) (.k (.int .i64 2)), (some (51, true)), []⟩,
                 ⟨(some 54), .pick (.t 51) (.t 53) (.k (.bool false)), none, []⟩,
                 ⟨(some 7), .mv (.t 54), none, []⟩])
               (.seq
                (.reg [] [
                  ⟨(some 56), .bin .plain .eql (.t 22) (.k (.int .i64 2)), none, []⟩,
                  ⟨(some 55), .mv (.t 56), none, []⟩])
                (.cond (.t 55)
                 (.reg [] [
                   ⟨(some 57), .mv (.t 3), none, []⟩,
                   ⟨(some 58), .bin .plain .leq (.t 57) (.k (.int .i64 80)), none, []⟩,
                   ⟨(some 59), .mv (.t 58), none, []⟩,
                   ⟨(some 60), .mv (.t 4), (some (59, true)), []⟩,
                   ⟨(some 61), .bin .plain .eql (.t 60) (.k (.int .i64 0)), (some (59, true)), []⟩,
                   ⟨(some 62), .pick (.t 59) (.t 61) (.k (.bool false)), none, []⟩,
                   ⟨(some 63), .mv (.t 62), none, []⟩,
                   ⟨(some 64), .mv (.t 6), (some (63, true)), []⟩,
                   ⟨(some 65), .bin .plain .eql (.t 64) (.k (.int .i64 2)), (some (63, true)), []⟩,
                   ⟨(some 66), .pick (.t 63) (.t 65) (.k (.bool false)), none, []⟩,
                   ⟨(some 7), .mv (.t 66), none, []⟩])
                 (.seq
                  (.reg [] [
                    ⟨(some 68), .bin .plain .eql (.t 22) (.k (.int .i64 3)), none, []⟩,
                    ⟨(some 67), .mv (.t 68), none, []⟩])
                  (.cond (.t 67)
                   (.reg [] [
                     ⟨(some 69), .mv (.t 3), none, []⟩,
                     ⟨(some 70), .bin .plain .eql (.t 69) (.k (.int .i64 0)), none, []⟩,
                     ⟨(some 71), .mv (.t 70), none, []⟩,
                     ⟨(some 72), .mv (.t 4), (some (71, true)), []⟩,
                     ⟨(some 73), .bin .plain .eql (.t 72) (.k (.int .i64 0)), (some (71, true)), []⟩,
                     ⟨(some 74), .pick (.t 71) (.t 73) (.k (.bool false)), none, []⟩,
                     ⟨(some 75), .mv (.t 74), none, []⟩,
                     ⟨(some 76), .mv (.t 6), (some (75, true)), []⟩,
                     ⟨(some 77), .bin .plain .eql (.t 76) (.k (.int .i64 0)), (some (75, true)), []⟩,
                     ⟨(some 78), .pick (.t 75) (.t 77) (.k (.bool false)), none, []⟩,
                     ⟨(some 7), .mv (.t 78), none, []⟩])
                   .skip))))))))))
         (.seq
          (.seq
           (.reg [] [
             ⟨(some 8), .mv (.k (.int .i64 0)), none, []⟩])
           (.block 1 i_ref04_Formed_j1
            (.loop i_ref04_Formed_k0 i_ref04_Formed_b0)))
          (.seq
           (.reg [] [
             ⟨(some 93), .mv (.t 7), none, []⟩,
             ⟨(some 2), .mv (.t 93), none, []⟩])
           (.ret i_ref04_Formed_r)))))))))),
  [.tmp 2], [], false, []⟩

def i_law00_Code_r : List Bool := [false, false, true, false, false, false, false, false, false, false, false, false, false, false, false]
def i_law00_Code_j1 : List Bool := [true, false, false, true, false, false, false, false, false, false, false, false, false, false, false]
def i_law00_Code_k0 : List Bool := [true, false, false, true, false, false, false, false, false, false, false, false, false, false, false]
def i_law00_Code_j0 : List Bool := [false, false, false, false, false, false, false, false, false, false, false, false, false, false, false]
abbrev s_law00_Code_R (t2 : AV) (h : Heap) : St := ⟨[.undef, .undef, t2, .undef, .undef, .undef, .undef, .undef, .undef, .undef, .undef, .undef, .undef, .undef, .undef], h⟩
abbrev s_law00_Code_K0 (t0 t3 : AV) (h : Heap) : St := ⟨[t0, .undef, .undef, t3, .undef, .undef, .undef, .undef, .undef, .undef, .undef, .undef, .undef, .undef, .undef], h⟩
def i_law00_Code_b0 : IR :=
  (.seq
   (.seq
    (.reg [] [
      ⟨(some 6), .mv (.t 3), none, []⟩,
      ⟨(some 7), .bin .plain .leq (.t 6) (.k (.int .i64 13)), none, []⟩])
    (.cond (.t 7)
     .skip
     (.exit 0 i_law00_Code_j0)))
   (.seq
    (.block 1 i_law00_Code_j1
     (.seq
      (.reg [] [
        ⟨(some 10), .mv (.t 0), none, []⟩,
        ⟨(some 11), .mv (.t 3), none, []⟩,
        ⟨(some 12), .mki ty_api_Code (.t 11), none, []⟩,
        ⟨(some 13), .bin (.iface ty_api_Code false) .eql (.t 10) (.t 12), none, []⟩])
      (.cond (.t 13)
       (.seq
        (.reg [] [
          ⟨(some 14), .mv (.t 3), none, []⟩,
          ⟨(some 2), .mv (.t 14), none, []⟩])
        (.ret i_law00_Code_r))
       .skip)))
    (.reg [] [
      ⟨(some 8), .mv (.t 3), none, []⟩,
      ⟨(some 9), .bin .plain .add (.t 8) (.k (.int .i64 1)), none, []⟩,
      ⟨(some 3), .mv (.t 9), none, []⟩])))

abbrev s_law00_Code_J0 (h : Heap) : St := ⟨[.undef, .undef, .undef, .undef, .undef, .undef, .undef, .undef, .undef, .undef, .undef, .undef, .undef, .undef, .undef], h⟩
/-- heartwood/heartwoodlaw00.Code -/
def i_law00_Code : Ev.Fn := ⟨1, 15, 0,
  (.seq
   (.reg [] [
     ⟨(some 2), .mv (.k (.int .i64 0)), none, []⟩])
   (.seq
    (.seq
     (.reg [] [
       ⟨(some 4), .mv (.t 0), none, []⟩,
       ⟨(some 5), .bin (.iface ty_api_Code true) .eql (.t 4) (.k .nilIface), none, []⟩])
     (.cond (.t 5)
      (.seq
       (.reg [] [
         ⟨(some 2), .mv (.k (.int .i64 0)), none, []⟩])
       (.ret i_law00_Code_r))
      .skip))
    (.seq
     (.seq
      (.reg [] [
        ⟨(some 3), .mv (.k (.int .i64 1)), none, []⟩])
      (.block 0 i_law00_Code_j0
       (.loop i_law00_Code_k0 i_law00_Code_b0)))
     (.seq
      (.reg [] [
        ⟨(some 2), .mv (.k (.int .i64 (-1))), none, []⟩])
      (.ret i_law00_Code_r))))),
  [.tmp 2], [], false, []⟩

def i_ref01_Made_r : List Bool := [true, false, false, false, false, false, false, false, false, false, false, false, false, false, false, false, false, false, false, false, false, false, false, false, false, false, false, false, false, false, false, false, false, false, false, false, false, false, false, false, false, false, false, false, false, false, false, false, false, false, false, false, false, false, false, false, false, false, false, false, false]
def i_ref01_Made_j3 : List Bool := [true, true, true, true, true, true, false, false, false, false, false, false, false, false, false, false, false, false, false, false, false, false, false, false, false, false, false, false, false, false, false, false, false, false, false, false, false, false, false, false, false, false, false, false, false, false, false, false, false, false, false, false, false, false, false, false, false, false, false, false, false]
def i_ref01_Made_k1 : List Bool := [true, true, true, true, true, true, false, false, false, false, false, false, false, false, false, false, false, false, false, false, false, false, false, false, false, false, false, false, false, false, false, false, false, false, false, false, false, false, false, false, false, false, false, false, false, false, false, false, false, false, false, false, false, false, false, false, false, false, false, false, false]
def i_ref01_Made_j2 : List Bool := [true, true, true, true, true, false, false, false, false, false, false, false, false, false, false, false, false, false, false, false, false, false, false, false, false, false, false, false, false, false, false, false, false, false, false, false, false, false, false, false, false, false, false, false, false, false, false, false, false, false, false, false, false, false, false, false, false, false, false, false, false]
def i_ref01_Made_j1 : List Bool := [true, true, true, true, false, false, false, false, false, false, false, false, false, false, false, false, false, false, false, false, false, false, false, false, false, false, false, false, false, false, false, false, false, false, false, false, false, false, false, false, false, false, false, false, false, false, false, false, false, false, false, false, false, false, false, false, false, false, false, false, false]
def i_ref01_Made_k0 : List Bool := [true, true, true, true, false, false, false, false, false, false, false, false, false, false, false, false, false, false, false, false, false, false, false, false, false, false, false, false, false, false, false, false, false, false, false, false, false, false, false, false, false, false, false, false, false, false, false, false, false, false, false, false, false, false, false, false, false, false, false, false, false]
def i_ref01_Made_j0 : List Bool := [true, true, true, false, false, false, false, false, false, false, false, false, false, false, false, false, false, false, false, false, false, false, false, false, false, false, false, false, false, false, false, false, false, false, false, false, false, false, false, false, false, false, false, false, false, false, false, false, false, false, false, false, false, false, false, false, false, false, false, false, false]
def i_ref01_Made_j5 : List Bool := [true, true, true, false, false, false, true, false, false, false, false, false, false, false, false, false, false, false, false, false, false, false, false, false, false, false, false, false, false, false, false, false, false, false, false, false, false, false, false, false, false, false, false, false, false, false, false, false, false, false, false, false, false, false, false, false, false, false, false, false, false]
def i_ref01_Made_k2 : List Bool := [true, true, true, false, false, false, true, false, false, false, false, false, false, false, false, false, false, false, false, false, false, false, false, false, false, false, false, false, false, false, false, false, false, false, false, false, false, false, false, false, false, false, false, false, false, false, false, false, false, false, false, false, false, false, false, false, false, false, false, false, false]
def i_ref01_Made_j4 : List Bool := [true, true, true, false, false, false, false, false, false, false, false, false, false, false, false, false, false, false, false, false, false, false, false, false, false, false, false, false, false, false, false, false, false, false, false, false, false, false, false, false, false, false, false, false, false, false, false, false, false, false, false, false, false, false, false, false, false, false, false, false, false]
def i_ref01_Made_j7 : List Bool := [true, true, true, false, false, false, false, true, false, false, false, false, false, false, false, false, false, false, false, false, false, false, false, false, false, false, false, false, false, false, false, false, false, false, false, false, false, false, false, false, false, false, false, false, false, false, false, false, false, false, false, false, false, false, false, false, false, false, false, false, false]
def i_ref01_Made_k3 : List Bool := [true, true, true, false, false, false, false, true, false, false, false, false, false, false, false, false, false, false, false, false, false, false, false, false, false, false, false, false, false, false, false, false, false, false, false, false, false, false, false, false, false, false, false, false, false, false, false, false, false, false, false, false, false, false, false, false, false, false, false, false, false]
def i_ref01_Made_j6 : List Bool := [true, true, false, false, false, false, false, false, false, false, false, false, false, false, false, false, false, false, false, false, false, false, false, false, false, false, false, false, false, false, false, false, false, false, false, false, false, false, false, false, false, false, false, false, false, false, false, false, false, false, false, false, false, false, false, false, false, false, false, false, false]
abbrev s_ref01_Made_R (t0 : AV) (h : Heap) : St := ⟨[t0, .undef, .undef, .undef, .undef, .undef, .undef, .undef, .undef, .undef, .undef, .undef, .undef, .undef, .undef, .undef, .undef, .undef, .undef, .undef, .undef, .undef, .undef, .undef, .undef, .undef, .undef, .undef, .undef, .undef, .undef, .undef, .undef, .undef, .undef, .undef, .undef, .undef, .undef, .undef, .undef, .undef, .undef, .undef, .undef, .undef, .undef, .undef, .undef, .undef, .undef, .undef, .undef, .undef, .undef, .undef, .undef, .undef, .undef, .undef, .undef], h⟩
abbrev s_ref01_Made_K1 (t0 t1 t2 t3 t4 t5 : AV) (h : Heap) : St := ⟨[t0, t1, t2, t3, t4, t5, .undef, .undef, .undef, .undef, .undef, .undef, .undef, .undef, .undef, .undef, .undef, .undef, .undef, .undef, .undef, .undef, .undef, .undef, .undef, .undef, .undef, .undef, .undef, .undef, .undef, .undef, .undef, .undef, .undef, .undef, .undef, .undef, .undef, .undef, .undef, .undef, .undef, .undef, .undef, .undef, .undef, .undef, .undef, .undef, .undef, .undef, .undef, .undef, .undef, .undef, .undef, .undef, .undef, .undef, .undef], h⟩
def i_ref01_Made_b1 : IR :=
  (.seq
   (.seq
    (.reg [] [
      ⟨(some 13), .mv (.t 5), none, []⟩,
      ⟨(some 14), .cn (.t 2), none, []⟩,
      ⟨(some 15), .len false (.t 14), none, []⟩,
      ⟨(some 16), .bin .plain .lss (.t 13) (.t 15), none, []⟩])
    (.cond (.t 16)
     .skip
     (.exit 2 i_ref01_Made_j2)))
   (.seq
    (.block 3 i_ref01_Made_j3
     (.reg [] [
       ⟨(some 19), .mv (.t 4), none, []⟩,
       ⟨(some 20), .mv (.t 19), none, []⟩,
       ⟨(some 21), .mv (.t 3), (some (20, true)), []⟩,
       ⟨(some 22), .cn (.t 2), (some (20, true)), []⟩,
       ⟨(some 23), .mv (.t 5), (some (20, true)), []⟩,
       ⟨(some 24), .ia 1 (.t 22) (.t 23), (some (20, true)), []⟩,
       ⟨(some 25), .load false 1 (.t 24), (some (20, true)), []⟩,
       ⟨(some 26), .bin .plain .rem (.t 21) (.t 25), (some (20, true)), []⟩,
       ⟨(some 27), .bin .plain .neq (.t 26) (.k (.int .u64 0)), (some (20, true)), []⟩,
       ⟨(some 28), .pick (.t 20) (.t 27) (.k (.bool false)), none, []⟩,
       ⟨(some 4), .mv (.t 28), none, []⟩]))
    (.reg [] [
      ⟨(some 17), .mv (.t 5), none, []⟩,
      ⟨(some 18), .bin .plain .add (.t 17) (.k (.int .i64 1)), none, []⟩,
      ⟨(some 5), .mv (.t 18), none, []⟩])))

abbrev s_ref01_Made_J2 (t0 t1 t2 t3 t4 : AV) (h : Heap) : St := ⟨[t0, t1, t2, t3, t4, .undef, .undef, .undef, .undef, .undef, .undef, .undef, .undef, .undef, .undef, .undef, .undef, .undef, .undef, .undef, .undef, .undef, .undef, .undef, .undef, .undef, .undef, .undef, .undef, .undef, .undef, .undef, .undef, .undef, .undef, .undef, .undef, .undef, .undef, .undef, .undef, .undef, .undef, .undef, .undef, .undef, .undef, .undef, .undef, .undef, .undef, .undef, .undef, .undef, .undef, .undef, .undef, .undef, .undef, .undef, .undef], h⟩
abbrev s_ref01_Made_J1 (t0 t1 t2 t3 : AV) (h : Heap) : St := ⟨[t0, t1, t2, t3, .undef, .undef, .undef, .undef, .undef, .undef, .undef, .undef, .undef, .undef, .undef, .undef, .undef, .undef, .undef, .undef, .undef, .undef, .undef, .undef, .undef, .undef, .undef, .undef, .undef, .undef, .undef, .undef, .undef, .undef, .undef, .undef, .undef, .undef, .undef, .undef, .undef, .undef, .undef, .undef, .undef, .undef, .undef, .undef, .undef, .undef, .undef, .undef, .undef, .undef, .undef, .undef, .undef, .undef, .undef, .undef, .undef], h⟩
abbrev s_ref01_Made_K0 (t0 t1 t2 t3 : AV) (h : Heap) : St := ⟨[t0, t1, t2, t3, .undef, .undef, .undef, .undef, .undef, .undef, .undef, .undef, .undef, .undef, .undef, .undef, .undef, .undef, .undef, .undef, .undef, .undef, .undef, .undef, .undef, .undef, .undef, .undef, .undef, .undef, .undef, .undef, .undef, .undef, .undef, .undef, .undef, .undef, .undef, .undef, .undef, .undef, .undef, .undef, .undef, .undef, .undef, .undef, .undef, .undef, .undef, .undef, .undef, .undef, .undef, .undef, .undef, .undef, .undef, .undef, .undef], h⟩
def i_ref01_Made_b0 : IR :=
  (.seq
   (.seq
    (.reg [] [
      ⟨(some 8), .cn (.t 2), none, []⟩,
      ⟨(some 9), .len false (.t 8), none, []⟩,
      ⟨(some 10), .bin .plain .lss (.t 9) (.k (.int .i64 64)), none, []⟩])
    (.cond (.t 10)
     .skip
     (.exit 0 i_ref01_Made_j0)))
   (.seq
    (.block 1 i_ref01_Made_j1
     (.seq
      (.reg [] [
        ⟨(some 4), .mv (.k (.bool true)), none, []⟩])
      (.seq
       (.seq
        (.reg [] [
          ⟨(some 5), .mv (.k (.int .i64 0)), none, []⟩])
        (.block 2 i_ref01_Made_j2
         (.loop i_ref01_Made_k1 i_ref01_Made_b1)))
       (.seq
        (.reg [] [
          ⟨(some 29), .mv (.t 4), none, []⟩])
        (.cond (.t 29)
         (.reg [] [
           ⟨(some 30), .mv (.t 2), none, []⟩,
           ⟨(some 31), .mv (.t 3), none, []⟩,
           ⟨(some 32), .litd 1 1 [(.int .u64 0)] [(0, (.t 31))], none, []⟩,
           ⟨(some 33), .app 2 ty_uint64 1 8 (.t 30) (.t 32), none, []⟩,
           ⟨(some 2), .mv (.t 33), none, []⟩])
         .skip)))))
    (.reg [] [
      ⟨(some 11), .mv (.t 3), none, []⟩,
      ⟨(some 12), .bin .plain .add (.t 11) (.k (.int .u64 1)), none, []⟩,
      ⟨(some 3), .mv (.t 12), none, []⟩])))

abbrev s_ref01_Made_J0 (t0 t1 t2 : AV) (h : Heap) : St := ⟨[t0, t1, t2, .undef, .undef, .undef, .undef, .undef, .undef, .undef, .undef, .undef, .undef, .undef, .undef, .undef, .undef, .undef, .undef, .undef, .undef, .undef, .undef, .undef, .undef, .undef, .undef, .undef, .undef, .undef, .undef, .undef, .undef, .undef, .undef, .undef, .undef, .undef, .undef, .undef, .undef, .undef, .undef, .undef, .undef, .undef, .undef, .undef, .undef, .undef, .undef, .undef, .undef, .undef, .undef, .undef, .undef, .undef, .undef, .undef, .undef], h⟩
abbrev s_ref01_Made_K2 (t0 t1 t2 t6 : AV) (h : Heap) : St := ⟨[t0, t1, t2, .undef, .undef, .undef, t6, .undef, .undef, .undef, .undef, .undef, .undef, .undef, .undef, .undef, .undef, .undef, .undef, .undef, .undef, .undef, .undef, .undef, .undef, .undef, .undef, .undef, .undef, .undef, .undef, .undef, .undef, .undef, .undef, .undef, .undef, .undef, .undef, .undef, .undef, .undef, .undef, .undef, .undef, .undef, .undef, .undef, .undef, .undef, .undef, .undef, .undef, .undef, .undef, .undef, .undef, .undef, .undef, .undef, .undef], h⟩
def i_ref01_Made_b2 : IR :=
  (.seq
   (.seq
    (.reg [] [
      ⟨(some 34), .mv (.t 6), none, []⟩,
      ⟨(some 35), .bin .plain .lss (.t 34) (.k (.int .i64 64)), none, []⟩])
    (.cond (.t 35)
     .skip
     (.exit 4 i_ref01_Made_j4)))
   (.seq
    (.block 5 i_ref01_Made_j5
     (.reg [] [
       ⟨(some 38), .fa 0 (.t 1), none, []⟩,
       ⟨(some 39), .load false 1 (.t 38), none, []⟩,
       ⟨(some 40), .cn (.t 2), none, []⟩,
       ⟨(some 41), .mv (.t 6), none, []⟩,
       ⟨(some 42), .ia 1 (.t 40) (.t 41), none, []⟩,
       ⟨(some 43), .load false 1 (.t 42), none, []⟩,
       ⟨(some 44), .qcall n_ref01_root [(.t 43), (.k (.bool true))] [], none, []⟩,
       ⟨(some 45), .litd 1 1 [(.int .u32 0)] [(0, (.t 44))], none, []⟩,
       ⟨(some 46), .app 3 ty_uint32 1 4 (.t 39) (.t 45), none, []⟩,
       ⟨(some 47), .fa 0 (.t 1), none, []⟩,
       ⟨none, .store 1 (.t 47) (.t 46), none, []⟩]))
    (.reg [] [
      ⟨(some 36), .mv (.t 6), none, []⟩,
      ⟨(some 37), .bin .plain .add (.t 36) (.k (.int .i64 1)), none, []⟩,
      ⟨(some 6), .mv (.t 37), none, []⟩])))

abbrev s_ref01_Made_J4 (t0 t1 t2 : AV) (h : Heap) : St := ⟨[t0, t1, t2, .undef, .undef, .undef, .undef, .undef, .undef, .undef, .undef, .undef, .undef, .undef, .undef, .undef, .undef, .undef, .undef, .undef, .undef, .undef, .undef, .undef, .undef, .undef, .undef, .undef, .undef, .undef, .undef, .undef, .undef, .undef, .undef, .undef, .undef, .undef, .undef, .undef, .undef, .undef, .undef, .undef, .undef, .undef, .undef, .undef, .undef, .undef, .undef, .undef, .undef, .undef, .undef, .undef, .undef, .undef, .undef, .undef, .undef], h⟩
abbrev s_ref01_Made_K3 (t0 t1 t2 t7 : AV) (h : Heap) : St := ⟨[t0, t1, t2, .undef, .undef, .undef, .undef, t7, .undef, .undef, .undef, .undef, .undef, .undef, .undef, .undef, .undef, .undef, .undef, .undef, .undef, .undef, .undef, .undef, .undef, .undef, .undef, .undef, .undef, .undef, .undef, .undef, .undef, .undef, .undef, .undef, .undef, .undef, .undef, .undef, .undef, .undef, .undef, .undef, .undef, .undef, .undef, .undef, .undef, .undef, .undef, .undef, .undef, .undef, .undef, .undef, .undef, .undef, .undef, .undef, .undef], h⟩
def i_ref01_Made_b3 : IR :=
  (.seq
   (.seq
    (.reg [] [
      ⟨(some 48), .mv (.t 7), none, []⟩,
      ⟨(some 49), .bin .plain .lss (.t 48) (.k (.int .i64 8)), none, []⟩])
    (.cond (.t 49)
     .skip
     (.exit 6 i_ref01_Made_j6)))
   (.seq
    (.block 7 i_ref01_Made_j7
     (.reg [] [
       ⟨(some 52), .mv (.t 7), none, []⟩,
       ⟨(some 53), .cn (.t 2), none, []⟩,
       ⟨(some 54), .mv (.t 7), none, []⟩,
       ⟨(some 55), .ia 1 (.t 53) (.t 54), none, []⟩,
       ⟨(some 56), .load false 1 (.t 55), none, []⟩,
       ⟨(some 57), .qcall n_ref01_root [(.t 56), (.k (.bool false))] [], none, []⟩,
       ⟨(some 58), .fa 1 (.t 1), none, []⟩,
       ⟨(some 59), .iap 8 1 (.t 58) (.t 52), none, []⟩,
       ⟨none, .store 1 (.t 59) (.t 57), none, []⟩]))
    (.reg [] [
      ⟨(some 50), .mv (.t 7), none, []⟩,
      ⟨(some 51), .bin .plain .add (.t 50) (.k (.int .i64 1)), none, []⟩,
      ⟨(some 7), .mv (.t 51), none, []⟩])))

abbrev s_ref01_Made_J6 (t0 t1 : AV) (h : Heap) : St := ⟨[t0, t1, .undef, .undef, .undef, .undef, .undef, .undef, .undef, .undef, .undef, .undef, .undef, .undef, .undef, .undef, .undef, .undef, .undef, .undef, .undef, .undef, .undef, .undef, .undef, .undef, .undef, .undef, .undef, .undef, .undef, .undef, .undef, .undef, .undef, .undef, .undef, .undef, .undef, .undef, .undef, .undef, .undef, .undef, .undef, .undef, .undef, .undef, .undef, .undef, .undef, .undef, .undef, .undef, .undef, .undef, .undef, .undef, .undef, .undef, .undef], h⟩
/-- heartwood/heartwoodref01.Made -/
def i_ref01_Made : Ev.Fn := ⟨0, 61, 4,
  (.seq
   (.reg [] [
     ⟨(some 0), .new 0 [(.slice none 0 0), (.int .u32 0), (.int .u32 0), (.int .u32 0), (.int .u32 0), (.int .u32 0), (.int .u32 0), (.int .u32 0), (.int .u32 0)], none, []⟩])
   (.seq
    (.reg [] [
      ⟨(some 1), .new 1 [(.slice none 0 0), (.int .u32 0), (.int .u32 0), (.int .u32 0), (.int .u32 0), (.int .u32 0), (.int .u32 0), (.int .u32 0), (.int .u32 0)], none, []⟩])
    (.seq
     (.reg [] [
       ⟨(some 2), .mv (.k (.slice none 0 0)), none, []⟩])
     (.seq
      (.seq
       (.reg [] [
         ⟨(some 3), .mv (.k (.int .u64 2)), none, []⟩])
       (.block 0 i_ref01_Made_j0
        (.loop i_ref01_Made_k0 i_ref01_Made_b0)))
      (.seq
       (.seq
        (.reg [] [
          ⟨(some 6), .mv (.k (.int .i64 0)), none, []⟩])
        (.block 4 i_ref01_Made_j4
         (.loop i_ref01_Made_k2 i_ref01_Made_b2)))
       (.seq
        (.seq
         (.reg [] [
           ⟨(some 7), .mv (.k (.int .i64 0)), none, []⟩])
         (.block 6 i_ref01_Made_j6
          (.loop i_ref01_Made_k3 i_ref01_Made_b3)))
        (.seq
         (.reg [] [
           ⟨(some 60), .load true 9 (.t 1), none, []⟩,
           ⟨none, .store 9 (.t 0) (.t 60), none, []⟩])
         (.ret i_ref01_Made_r)))))))),
  [.cell 0 true 9], [], false, []⟩

def i_ref01_root_r : List Bool := [false, false, false, false, true, false, false, false, false, false, false, false, false, false, false, false, false, false, false, false, false, false, false]
def i_ref01_root_j1 : List Bool := [true, true, false, false, false, true, true, false, false, false, false, false, false, false, false, false, false, false, false, false, false, false, false]
def i_ref01_root_k0 : List Bool := [true, true, false, false, false, true, true, false, false, false, false, false, false, false, false, false, false, false, false, false, false, false, false]
def i_ref01_root_j0 : List Bool := [false, false, false, false, false, true, false, false, false, false, false, false, false, false, false, false, false, false, false, false, false, false, false]
abbrev s_ref01_root_R (t4 : AV) (h : Heap) : St := ⟨[.undef, .undef, .undef, .undef, t4, .undef, .undef, .undef, .undef, .undef, .undef, .undef, .undef, .undef, .undef, .undef, .undef, .undef, .undef, .undef, .undef, .undef, .undef], h⟩
abbrev s_ref01_root_K0 (t0 t1 t5 t6 : AV) (h : Heap) : St := ⟨[t0, t1, .undef, .undef, .undef, t5, t6, .undef, .undef, .undef, .undef, .undef, .undef, .undef, .undef, .undef, .undef, .undef, .undef, .undef, .undef, .undef, .undef], h⟩
def i_ref01_root_b0 : IR :=
  (.seq
   (.seq
    (.reg [] [
      ⟨(some 8), .mv (.t 6), none, []⟩,
      ⟨(some 9), .bin .plain .gtr (.t 8) (.k (.int .u64 0)), none, []⟩])
    (.cond (.t 9)
     .skip
     (.exit 0 i_ref01_root_j0)))
   (.seq
    (.block 1 i_ref01_root_j1
     (.seq
      (.reg [] [
        ⟨(some 12), .mv (.t 5), none, []⟩,
        ⟨(some 13), .mv (.t 6), none, []⟩,
        ⟨(some 14), .bin .plain .add (.t 12) (.t 13), none, []⟩,
        ⟨(some 7), .mv (.t 14), none, []⟩])
      (.seq
       (.reg [] [
         ⟨(some 15), .mv (.t 7), none, []⟩,
         ⟨(some 16), .mv (.t 0), none, []⟩,
         ⟨(some 17), .mv (.t 1), none, []⟩,
         ⟨(some 18), .qcall n_ref01_below [(.t 15), (.t 16), (.t 17)] [], none, []⟩])
       (.cond (.t 18)
        (.reg [] [
          ⟨(some 19), .mv (.t 7), none, []⟩,
          ⟨(some 5), .mv (.t 19), none, []⟩])
        .skip))))
    (.reg [] [
      ⟨(some 10), .mv (.t 6), none, []⟩,
      ⟨(some 11), .bin .plain .quo (.t 10) (.k (.int .u64 2)), none, []⟩,
      ⟨(some 6), .mv (.t 11), none, []⟩])))

abbrev s_ref01_root_J0 (t5 : AV) (h : Heap) : St := ⟨[.undef, .undef, .undef, .undef, .undef, t5, .undef, .undef, .undef, .undef, .undef, .undef, .undef, .undef, .undef, .undef, .undef, .undef, .undef, .undef, .undef, .undef, .undef], h⟩
/-- heartwood/heartwoodref01.root -/
def i_ref01_root : Ev.Fn := ⟨2, 23, 0,
  (.seq
   (.reg [] [
     ⟨(some 4), .mv (.k (.int .u32 0)), none, []⟩])
   (.seq
    (.reg [] [
      ⟨(some 5), .mv (.k (.int .u64 0)), none, []⟩])
    (.seq
     (.seq
      (.reg [] [
        ⟨(some 6), .mv (.k (.int .u64 34359738368)), none, []⟩])
      (.block 0 i_ref01_root_j0
       (.loop i_ref01_root_k0 i_ref01_root_b0)))
     (.seq
      (.reg [] [
        ⟨(some 20), .mv (.t 5), none, []⟩,
        ⟨(some 21), .bin .plain .rem (.t 20) (.k (.int .u64 4294967296)), none, []⟩,
        ⟨(some 22), .conv .u32 (.t 21), none, []⟩,
        ⟨(some 4), .mv (.t 22), none, []⟩])
      (.ret i_ref01_root_r))))),
  [.tmp 4], [], false, []⟩

def i_ref01_below_r : List Bool := [false, false, false, false, false, false, true, false, false, false, false, false, false, false, false, false, false, false, false, false, false, false, false, false, false, false, false, false, false, false, false, false, false, false, false, false, false, false, false, false, false, false, false, false, false, false, false, false, false, false, false, false, false, false, false, false, false, false, false]
def i_ref01_below_j1 : List Bool := [false, false, false, false, false, false, false, false, true, false, true, true, false, false, false, false, false, false, false, false, false, false, false, false, false, false, false, false, false, false, false, false, false, false, false, false, false, false, false, false, false, false, false, false, false, false, false, false, false, false, false, false, false, false, false, false, false, false, false]
def i_ref01_below_k0 : List Bool := [false, false, false, false, false, false, false, false, true, false, true, true, false, false, false, false, false, false, false, false, false, false, false, false, false, false, false, false, false, false, false, false, false, false, false, false, false, false, false, false, false, false, false, false, false, false, false, false, false, false, false, false, false, false, false, false, false, false, false]
def i_ref01_below_j0 : List Bool := [false, false, false, false, false, false, false, false, false, false, false, false, false, false, false, false, false, false, false, false, false, false, false, false, false, false, false, false, false, false, false, false, false, false, false, false, false, false, false, false, false, false, false, false, false, false, false, false, false, false, false, false, false, false, false, false, false, false, false]
abbrev s_ref01_below_R (t6 : AV) (h : Heap) : St := ⟨[.undef, .undef, .undef, .undef, .undef, .undef, t6, .undef, .undef, .undef, .undef, .undef, .undef, .undef, .undef, .undef, .undef, .undef, .undef, .undef, .undef, .undef, .undef, .undef, .undef, .undef, .undef, .undef, .undef, .undef, .undef, .undef, .undef, .undef, .undef, .undef, .undef, .undef, .undef, .undef, .undef, .undef, .undef, .undef, .undef, .undef, .undef, .undef, .undef, .undef, .undef, .undef, .undef, .undef, .undef, .undef, .undef, .undef, .undef], h⟩
abbrev s_ref01_below_K0 (t8 t10 t11 : AV) (h : Heap) : St := ⟨[.undef, .undef, .undef, .undef, .undef, .undef, .undef, .undef, t8, .undef, t10, t11, .undef, .undef, .undef, .undef, .undef, .undef, .undef, .undef, .undef, .undef, .undef, .undef, .undef, .undef, .undef, .undef, .undef, .undef, .undef, .undef, .undef, .undef, .undef, .undef, .undef, .undef, .undef, .undef, .undef, .undef, .undef, .undef, .undef, .undef, .undef, .undef, .undef, .undef, .undef, .undef, .undef, .undef, .undef, .undef, .undef, .undef, .undef], h⟩
def i_ref01_below_b0 : IR :=
  (.seq
   (.seq
    (.reg [] [
      ⟨(some 37), .mv (.t 11), none, []⟩,
      ⟨(some 38), .bin .plain .geq (.t 37) (.k (.int .i64 0)), none, []⟩])
    (.cond (.t 38)
     .skip
     (.exit 0 i_ref01_below_j0)))
   (.seq
    (.block 1 i_ref01_below_j1
     (.seq
      (.reg [] [
        ⟨(some 41), .cn (.t 8), none, []⟩,
        ⟨(some 42), .mv (.t 11), none, []⟩,
        ⟨(some 43), .ia 1 (.t 41) (.t 42), none, []⟩,
        ⟨(some 44), .load false 1 (.t 43), none, []⟩,
        ⟨(some 45), .cn (.t 10), none, []⟩,
        ⟨(some 46), .mv (.t 11), none, []⟩,
        ⟨(some 47), .ia 1 (.t 45) (.t 46), none, []⟩,
        ⟨(some 48), .load false 1 (.t 47), none, []⟩,
        ⟨(some 49), .bin .plain .neq (.t 44) (.t 48), none, []⟩])
      (.cond (.t 49)
       (.seq
        (.reg [] [
          ⟨(some 50), .cn (.t 8), none, []⟩,
          ⟨(some 51), .mv (.t 11), none, []⟩,
          ⟨(some 52), .ia 1 (.t 50) (.t 51), none, []⟩,
          ⟨(some 53), .load false 1 (.t 52), none, []⟩,
          ⟨(some 54), .cn (.t 10), none, []⟩,
          ⟨(some 55), .mv (.t 11), none, []⟩,
          ⟨(some 56), .ia 1 (.t 54) (.t 55), none, []⟩,
          ⟨(some 57), .load false 1 (.t 56), none, []⟩,
          ⟨(some 58), .bin .plain .lss (.t 53) (.t 57), none, []⟩,
          ⟨(some 6), .mv (.t 58), none, []⟩])
        (.ret i_ref01_below_r))
       .skip)))
    (.reg [] [
      ⟨(some 39), .mv (.t 11), none, []⟩,
      ⟨(some 40), .bin .plain .sub (.t 39) (.k (.int .i64 1)), none, []⟩,
      ⟨(some 11), .mv (.t 40), none, []⟩])))

abbrev s_ref01_below_J0 (h : Heap) : St := ⟨[.undef, .undef, .undef, .undef, .undef, .undef, .undef, .undef, .undef, .undef, .undef, .undef, .undef, .undef, .undef, .undef, .undef, .undef, .undef, .undef, .undef, .undef, .undef, .undef, .undef, .undef, .undef, .undef, .undef, .undef, .undef, .undef, .undef, .undef, .undef, .undef, .undef, .undef, .undef, .undef, .undef, .undef, .undef, .undef, .undef, .undef, .undef, .undef, .undef, .undef, .undef, .undef, .undef, .undef, .undef, .undef, .undef, .undef, .undef], h⟩
/-- heartwood/heartwoodref01.below -/
def i_ref01_below : Ev.Fn := ⟨3, 59, 1,
  (.seq
   (.reg [] [
     ⟨(some 6), .mv (.k (.bool false)), none, []⟩])
   (.seq
    (.reg [] [
      ⟨(some 12), .mv (.t 0), none, []⟩,
      ⟨(some 13), .bin .plain .rem (.t 12) (.k (.int .u64 65536)), none, []⟩,
      ⟨(some 14), .mv (.t 0), none, []⟩,
      ⟨(some 15), .bin .plain .quo (.t 14) (.k (.int .u64 65536)), none, []⟩,
      ⟨(some 16), .bin .plain .rem (.t 15) (.k (.int .u64 65536)), none, []⟩,
      ⟨(some 17), .mv (.t 0), none, []⟩,
      ⟨(some 18), .bin .plain .quo (.t 17) (.k (.int .u64 4294967296)), none, []⟩,
      ⟨(some 19), .litd 1 3 [(.int .u64 0)] [(0, (.t 13)), (1, (.t 16)), (2, (.t 18))], none, []⟩,
      ⟨(some 7), .cn (.t 19), none, []⟩])
    (.seq
     (.reg [] [
       ⟨(some 20), .cn (.t 7), none, []⟩,
       ⟨(some 21), .cn (.t 7), none, []⟩,
       ⟨(some 22), .qcall n_ref01_times [(.t 20), (.t 21)] [], none, []⟩,
       ⟨(some 8), .cn (.t 22), none, []⟩])
     (.seq
      (.reg [] [
        ⟨(some 9), .mv (.k (.int .i64 4)), none, []⟩])
      (.seq
       (.seq
        (.reg [] [
          ⟨(some 23), .mv (.t 2), none, []⟩])
        (.cond (.t 23)
         (.seq
          (.reg [] [
            ⟨(some 24), .cn (.t 8), none, []⟩,
            ⟨(some 25), .cn (.t 7), none, []⟩,
            ⟨(some 26), .qcall n_ref01_times [(.t 24), (.t 25)] [], none, []⟩,
            ⟨(some 8), .cn (.t 26), none, []⟩])
          (.reg [] [
            ⟨(some 9), .mv (.k (.int .i64 6)), none, []⟩]))
         .skip))
       (.seq
        (.reg [] [
          ⟨(some 27), .cn (.t 8), none, []⟩,
          ⟨(some 28), .len false (.t 27), none, []⟩,
          ⟨(some 29), .make 0 ty_uint64 1 8 [(.int .u64 0)] (.t 28) (.t 28), none, []⟩,
          ⟨(some 10), .mv (.t 29), none, []⟩])
        (.seq
         (.reg [] [
           ⟨(some 30), .mv (.t 10), none, []⟩,
           ⟨(some 31), .mv (.t 9), none, []⟩,
           ⟨(some 32), .mv (.t 1), none, []⟩,
           ⟨(some 33), .ia 1 (.t 30) (.t 31), none, []⟩,
           ⟨none, .store 1 (.t 33) (.t 32), none, []⟩])
         (.seq
          (.seq
           (.reg [] [
             ⟨(some 34), .cn (.t 8), none, []⟩,
             ⟨(some 35), .len false (.t 34), none, []⟩,
             ⟨(some 36), .bin .plain .sub (.t 35) (.k (.int .i64 1)), none, []⟩,
             ⟨(some 11), .mv (.t 36), none, []⟩])
           (.block 0 i_ref01_below_j0
            (.loop i_ref01_below_k0 i_ref01_below_b0)))
          (.seq
           (.reg [] [
             ⟨(some 6), .mv (.k (.bool true)), none, []⟩])
           (.ret i_ref01_below_r)))))))))),
  [.tmp 6], [], false, []⟩

def i_ref01_times_r : List Bool := [false, false, false, false, true, false, false, false, false, false, false, false, false, false, false, false, false, false, false, false, false, false, false, false, false, false, false, false, false, false, false, false, false, false, false, false, false, false, false, false, false, false, false, false, false, false, false, false, false, false, false, false, false, false, false, false, false, false, false, false, false, false, false, false, false, false, false, false, false, false, false, false, false, false, false, false, false, false, false, false]
def i_ref01_times_j3 : List Bool := [true, true, false, false, false, true, true, true, false, false, false, false, false, false, false, false, false, false, false, false, false, false, false, false, false, false, false, false, false, false, false, false, false, false, false, false, false, false, false, false, false, false, false, false, false, false, false, false, false, false, false, false, false, false, false, false, false, false, false, false, false, false, false, false, false, false, false, false, false, false, false, false, false, false, false, false, false, false, false, false]
def i_ref01_times_k1 : List Bool := [true, true, false, false, false, true, true, true, false, false, false, false, false, false, false, false, false, false, false, false, false, false, false, false, false, false, false, false, false, false, false, false, false, false, false, false, false, false, false, false, false, false, false, false, false, false, false, false, false, false, false, false, false, false, false, false, false, false, false, false, false, false, false, false, false, false, false, false, false, false, false, false, false, false, false, false, false, false, false, false]
def i_ref01_times_j2 : List Bool := [true, true, false, false, false, true, true, false, false, false, false, false, false, false, false, false, false, false, false, false, false, false, false, false, false, false, false, false, false, false, false, false, false, false, false, false, false, false, false, false, false, false, false, false, false, false, false, false, false, false, false, false, false, false, false, false, false, false, false, false, false, false, false, false, false, false, false, false, false, false, false, false, false, false, false, false, false, false, false, false]
def i_ref01_times_j1 : List Bool := [true, true, false, false, false, true, true, false, false, false, false, false, false, false, false, false, false, false, false, false, false, false, false, false, false, false, false, false, false, false, false, false, false, false, false, false, false, false, false, false, false, false, false, false, false, false, false, false, false, false, false, false, false, false, false, false, false, false, false, false, false, false, false, false, false, false, false, false, false, false, false, false, false, false, false, false, false, false, false, false]
def i_ref01_times_k0 : List Bool := [true, true, false, false, false, true, true, false, false, false, false, false, false, false, false, false, false, false, false, false, false, false, false, false, false, false, false, false, false, false, false, false, false, false, false, false, false, false, false, false, false, false, false, false, false, false, false, false, false, false, false, false, false, false, false, false, false, false, false, false, false, false, false, false, false, false, false, false, false, false, false, false, false, false, false, false, false, false, false, false]
def i_ref01_times_j0 : List Bool := [false, false, false, false, false, true, false, false, false, false, false, false, false, false, false, false, false, false, false, false, false, false, false, false, false, false, false, false, false, false, false, false, false, false, false, false, false, false, false, false, false, false, false, false, false, false, false, false, false, false, false, false, false, false, false, false, false, false, false, false, false, false, false, false, false, false, false, false, false, false, false, false, false, false, false, false, false, false, false, false]
def i_ref01_times_j5 : List Bool := [false, false, false, false, false, true, false, false, true, false, false, false, false, false, false, false, false, false, false, false, false, false, false, false, false, false, false, false, false, false, false, false, false, false, false, false, false, false, false, false, false, false, false, false, false, false, false, false, false, false, false, false, false, false, false, false, false, false, false, false, false, false, false, false, false, false, false, false, false, false, false, false, false, false, false, false, false, false, false, false]
def i_ref01_times_k2 : List Bool := [false, false, false, false, false, true, false, false, true, false, false, false, false, false, false, false, false, false, false, false, false, false, false, false, false, false, false, false, false, false, false, false, false, false, false, false, false, false, false, false, false, false, false, false, false, false, false, false, false, false, false, false, false, false, false, false, false, false, false, false, false, false, false, false, false, false, false, false, false, false, false, false, false, false, false, false, false, false, false, false]
def i_ref01_times_j4 : List Bool := [false, false, false, false, false, true, false, false, false, false, false, false, false, false, false, false, false, false, false, false, false, false, false, false, false, false, false, false, false, false, false, false, false, false, false, false, false, false, false, false, false, false, false, false, false, false, false, false, false, false, false, false, false, false, false, false, false, false, false, false, false, false, false, false, false, false, false, false, false, false, false, false, false, false, false, false, false, false, false, false]
abbrev s_ref01_times_R (t4 : AV) (h : Heap) : St := ⟨[.undef, .undef, .undef, .undef, t4, .undef, .undef, .undef, .undef, .undef, .undef, .undef, .undef, .undef, .undef, .undef, .undef, .undef, .undef, .undef, .undef, .undef, .undef, .undef, .undef, .undef, .undef, .undef, .undef, .undef, .undef, .undef, .undef, .undef, .undef, .undef, .undef, .undef, .undef, .undef, .undef, .undef, .undef, .undef, .undef, .undef, .undef, .undef, .undef, .undef, .undef, .undef, .undef, .undef, .undef, .undef, .undef, .undef, .undef, .undef, .undef, .undef, .undef, .undef, .undef, .undef, .undef, .undef, .undef, .undef, .undef, .undef, .undef, .undef, .undef, .undef, .undef, .undef, .undef, .undef], h⟩
abbrev s_ref01_times_K1 (t0 t1 t5 t6 t7 : AV) (h : Heap) : St := ⟨[t0, t1, .undef, .undef, .undef, t5, t6, t7, .undef, .undef, .undef, .undef, .undef, .undef, .undef, .undef, .undef, .undef, .undef, .undef, .undef, .undef, .undef, .undef, .undef, .undef, .undef, .undef, .undef, .undef, .undef, .undef, .undef, .undef, .undef, .undef, .undef, .undef, .undef, .undef, .undef, .undef, .undef, .undef, .undef, .undef, .undef, .undef, .undef, .undef, .undef, .undef, .undef, .undef, .undef, .undef, .undef, .undef, .undef, .undef, .undef, .undef, .undef, .undef, .undef, .undef, .undef, .undef, .undef, .undef, .undef, .undef, .undef, .undef, .undef, .undef, .undef, .undef, .undef, .undef], h⟩
def i_ref01_times_b1 : IR :=
  (.seq
   (.seq
    (.reg [] [
      ⟨(some 22), .mv (.t 7), none, []⟩,
      ⟨(some 23), .cn (.t 1), none, []⟩,
      ⟨(some 24), .len false (.t 23), none, []⟩,
      ⟨(some 25), .bin .plain .lss (.t 22) (.t 24), none, []⟩])
    (.cond (.t 25)
     .skip
     (.exit 2 i_ref01_times_j2)))
   (.seq
    (.block 3 i_ref01_times_j3
     (.reg [] [
       ⟨(some 28), .mv (.t 5), none, []⟩,
       ⟨(some 29), .mv (.t 6), none, []⟩,
       ⟨(some 30), .mv (.t 7), none, []⟩,
       ⟨(some 31), .bin .plain .add (.t 29) (.t 30), none, []⟩,
       ⟨(some 32), .cn (.t 5), none, []⟩,
       ⟨(some 33), .mv (.t 6), none, []⟩,
       ⟨(some 34), .mv (.t 7), none, []⟩,
       ⟨(some 35), .bin .plain .add (.t 33) (.t 34), none, []⟩,
       ⟨(some 36), .ia 1 (.t 32) (.t 35), none, []⟩,
       ⟨(some 37), .load false 1 (.t 36), none, []⟩,
       ⟨(some 38), .cn (.t 0), none, []⟩,
       ⟨(some 39), .mv (.t 6), none, []⟩,
       ⟨(some 40), .ia 1 (.t 38) (.t 39), none, []⟩,
       ⟨(some 41), .load false 1 (.t 40), none, []⟩,
       ⟨(some 42), .cn (.t 1), none, []⟩,
       ⟨(some 43), .mv (.t 7), none, []⟩,
       ⟨(some 44), .ia 1 (.t 42) (.t 43), none, []⟩,
       ⟨(some 45), .load false 1 (.t 44), none, []⟩,
       ⟨(some 46), .bin .plain .mul (.t 41) (.t 45), none, []⟩,
       ⟨(some 47), .bin .plain .add (.t 37) (.t 46), none, []⟩,
       ⟨(some 48), .ia 1 (.t 28) (.t 31), none, []⟩,
       ⟨none, .store 1 (.t 48) (.t 47), none, []⟩]))
    (.reg [] [
      ⟨(some 26), .mv (.t 7), none, []⟩,
      ⟨(some 27), .bin .plain .add (.t 26) (.k (.int .i64 1)), none, []⟩,
      ⟨(some 7), .mv (.t 27), none, []⟩])))

abbrev s_ref01_times_J2 (t0 t1 t5 t6 : AV) (h : Heap) : St := ⟨[t0, t1, .undef, .undef, .undef, t5, t6, .undef, .undef, .undef, .undef, .undef, .undef, .undef, .undef, .undef, .undef, .undef, .undef, .undef, .undef, .undef, .undef, .undef, .undef, .undef, .undef, .undef, .undef, .undef, .undef, .undef, .undef, .undef, .undef, .undef, .undef, .undef, .undef, .undef, .undef, .undef, .undef, .undef, .undef, .undef, .undef, .undef, .undef, .undef, .undef, .undef, .undef, .undef, .undef, .undef, .undef, .undef, .undef, .undef, .undef, .undef, .undef, .undef, .undef, .undef, .undef, .undef, .undef, .undef, .undef, .undef, .undef, .undef, .undef, .undef, .undef, .undef, .undef, .undef], h⟩
abbrev s_ref01_times_J1 (t0 t1 t5 t6 : AV) (h : Heap) : St := ⟨[t0, t1, .undef, .undef, .undef, t5, t6, .undef, .undef, .undef, .undef, .undef, .undef, .undef, .undef, .undef, .undef, .undef, .undef, .undef, .undef, .undef, .undef, .undef, .undef, .undef, .undef, .undef, .undef, .undef, .undef, .undef, .undef, .undef, .undef, .undef, .undef, .undef, .undef, .undef, .undef, .undef, .undef, .undef, .undef, .undef, .undef, .undef, .undef, .undef, .undef, .undef, .undef, .undef, .undef, .undef, .undef, .undef, .undef, .undef, .undef, .undef, .undef, .undef, .undef, .undef, .undef, .undef, .undef, .undef, .undef, .undef, .undef, .undef, .undef, .undef, .undef, .undef, .undef, .undef], h⟩
abbrev s_ref01_times_K0 (t0 t1 t5 t6 : AV) (h : Heap) : St := ⟨[t0, t1, .undef, .undef, .undef, t5, t6, .undef, .undef, .undef, .undef, .undef, .undef, .undef, .undef, .undef, .undef, .undef, .undef, .undef, .undef, .undef, .undef, .undef, .undef, .undef, .undef, .undef, .undef, .undef, .undef, .undef, .undef, .undef, .undef, .undef, .undef, .undef, .undef, .undef, .undef, .undef, .undef, .undef, .undef, .undef, .undef, .undef, .undef, .undef, .undef, .undef, .undef, .undef, .undef, .undef, .undef, .undef, .undef, .undef, .undef, .undef, .undef, .undef, .undef, .undef, .undef, .undef, .undef, .undef, .undef, .undef, .undef, .undef, .undef, .undef, .undef, .undef, .undef, .undef], h⟩
def i_ref01_times_b0 : IR :=
  (.seq
   (.seq
    (.reg [] [
      ⟨(some 16), .mv (.t 6), none, []⟩,
      ⟨(some 17), .cn (.t 0), none, []⟩,
      ⟨(some 18), .len false (.t 17), none, []⟩,
      ⟨(some 19), .bin .plain .lss (.t 16) (.t 18), none, []⟩])
    (.cond (.t 19)
     .skip
     (.exit 0 i_ref01_times_j0)))
   (.seq
    (.block 1 i_ref01_times_j1
     (.seq
      (.reg [] [
        ⟨(some 7), .mv (.k (.int .i64 0)), none, []⟩])
      (.block 2 i_ref01_times_j2
       (.loop i_ref01_times_k1 i_ref01_times_b1))))
    (.reg [] [
      ⟨(some 20), .mv (.t 6), none, []⟩,
      ⟨(some 21), .bin .plain .add (.t 20) (.k (.int .i64 1)), none, []⟩,
      ⟨(some 6), .mv (.t 21), none, []⟩])))

abbrev s_ref01_times_J0 (t5 : AV) (h : Heap) : St := ⟨[.undef, .undef, .undef, .undef, .undef, t5, .undef, .undef, .undef, .undef, .undef, .undef, .undef, .undef, .undef, .undef, .undef, .undef, .undef, .undef, .undef, .undef, .undef, .undef, .undef, .undef, .undef, .undef, .undef, .undef, .undef, .undef, .undef, .undef, .undef, .undef, .undef, .undef, .undef, .undef, .undef, .undef, .undef, .undef, .undef, .undef, .undef, .undef, .undef, .undef, .undef, .undef, .undef, .undef, .undef, .undef, .undef, .undef, .undef, .undef, .undef, .undef, .undef, .undef, .undef, .undef, .undef, .undef, .undef, .undef, .undef, .undef, .undef, .undef, .undef, .undef, .undef, .undef, .undef, .undef], h⟩
abbrev s_ref01_times_K2 (t5 t8 : AV) (h : Heap) : St := ⟨[.undef, .undef, .undef, .undef, .undef, t5, .undef, .undef, t8, .undef, .undef, .undef, .undef, .undef, .undef, .undef, .undef, .undef, .undef, .undef, .undef, .undef, .undef, .undef, .undef, .undef, .undef, .undef, .undef, .undef, .undef, .undef, .undef, .undef, .undef, .undef, .undef, .undef, .undef, .undef, .undef, .undef, .undef, .undef, .undef, .undef, .undef, .undef, .undef, .undef, .undef, .undef, .undef, .undef, .undef, .undef, .undef, .undef, .undef, .undef, .undef, .undef, .undef, .undef, .undef, .undef, .undef, .undef, .undef, .undef, .undef, .undef, .undef, .undef, .undef, .undef, .undef, .undef, .undef, .undef], h⟩
def i_ref01_times_b2 : IR :=
  (.seq
   (.seq
    (.reg [] [
      ⟨(some 49), .mv (.t 8), none, []⟩,
      ⟨(some 50), .bin .plain .add (.t 49) (.k (.int .i64 1)), none, []⟩,
      ⟨(some 51), .cn (.t 5), none, []⟩,
      ⟨(some 52), .len false (.t 51), none, []⟩,
      ⟨(some 53), .bin .plain .lss (.t 50) (.t 52), none, []⟩])
    (.cond (.t 53)
     .skip
     (.exit 4 i_ref01_times_j4)))
   (.seq
    (.block 5 i_ref01_times_j5
     (.seq
      (.reg [] [
        ⟨(some 56), .mv (.t 5), none, []⟩,
        ⟨(some 57), .mv (.t 8), none, []⟩,
        ⟨(some 58), .bin .plain .add (.t 57) (.k (.int .i64 1)), none, []⟩,
        ⟨(some 59), .cn (.t 5), none, []⟩,
        ⟨(some 60), .mv (.t 8), none, []⟩,
        ⟨(some 61), .bin .plain .add (.t 60) (.k (.int .i64 1)), none, []⟩,
        ⟨(some 62), .ia 1 (.t 59) (.t 61), none, []⟩,
        ⟨(some 63), .load false 1 (.t 62), none, []⟩,
        ⟨(some 64), .cn (.t 5), none, []⟩,
        ⟨(some 65), .mv (.t 8), none, []⟩,
        ⟨(some 66), .ia 1 (.t 64) (.t 65), none, []⟩,
        ⟨(some 67), .load false 1 (.t 66), none, []⟩,
        ⟨(some 68), .bin .plain .quo (.t 67) (.k (.int .u64 65536)), none, []⟩,
        ⟨(some 69), .bin .plain .add (.t 63) (.t 68), none, []⟩,
        ⟨(some 70), .ia 1 (.t 56) (.t 58), none, []⟩,
        ⟨none, .store 1 (.t 70) (.t 69), none, []⟩])
      (.reg [] [
        ⟨(some 71), .mv (.t 5), none, []⟩,
        ⟨(some 72), .mv (.t 8), none, []⟩,
        ⟨(some 73), .cn (.t 5), none, []⟩,
        ⟨(some 74), .mv (.t 8), none, []⟩,
        ⟨(some 75), .ia 1 (.t 73) (.t 74), none, []⟩,
        ⟨(some 76), .load false 1 (.t 75), none, []⟩,
        ⟨(some 77), .bin .plain .rem (.t 76) (.k (.int .u64 65536)), none, []⟩,
        ⟨(some 78), .ia 1 (.t 71) (.t 72), none, []⟩,
        ⟨none, .store 1 (.t 78) (.t 77), none, []⟩])))
    (.reg [] [
      ⟨(some 54), .mv (.t 8), none, []⟩,
      ⟨(some 55), .bin .plain .add (.t 54) (.k (.int .i64 1)), none, []⟩,
      ⟨(some 8), .mv (.t 55), none, []⟩])))

abbrev s_ref01_times_J4 (t5 : AV) (h : Heap) : St := ⟨[.undef, .undef, .undef, .undef, .undef, t5, .undef, .undef, .undef, .undef, .undef, .undef, .undef, .undef, .undef, .undef, .undef, .undef, .undef, .undef, .undef, .undef, .undef, .undef, .undef, .undef, .undef, .undef, .undef, .undef, .undef, .undef, .undef, .undef, .undef, .undef, .undef, .undef, .undef, .undef, .undef, .undef, .undef, .undef, .undef, .undef, .undef, .undef, .undef, .undef, .undef, .undef, .undef, .undef, .undef, .undef, .undef, .undef, .undef, .undef, .undef, .undef, .undef, .undef, .undef, .undef, .undef, .undef, .undef, .undef, .undef, .undef, .undef, .undef, .undef, .undef, .undef, .undef, .undef, .undef], h⟩
/-- heartwood/heartwoodref01.times -/
def i_ref01_times : Ev.Fn := ⟨2, 80, 1,
  (.seq
   (.reg [] [
     ⟨(some 4), .cn (.k (.slice none 0 0)), none, []⟩])
   (.seq
    (.reg [] [
      ⟨(some 9), .cn (.t 0), none, []⟩,
      ⟨(some 10), .len false (.t 9), none, []⟩,
      ⟨(some 11), .cn (.t 1), none, []⟩,
      ⟨(some 12), .len false (.t 11), none, []⟩,
      ⟨(some 13), .bin .plain .add (.t 10) (.t 12), none, []⟩,
      ⟨(some 14), .bin .plain .add (.t 13) (.k (.int .i64 1)), none, []⟩,
      ⟨(some 15), .make 0 ty_uint64 1 8 [(.int .u64 0)] (.t 14) (.t 14), none, []⟩,
      ⟨(some 5), .mv (.t 15), none, []⟩])
    (.seq
     (.seq
      (.reg [] [
        ⟨(some 6), .mv (.k (.int .i64 0)), none, []⟩])
      (.block 0 i_ref01_times_j0
       (.loop i_ref01_times_k0 i_ref01_times_b0)))
     (.seq
      (.seq
       (.reg [] [
         ⟨(some 8), .mv (.k (.int .i64 0)), none, []⟩])
       (.block 4 i_ref01_times_j4
        (.loop i_ref01_times_k2 i_ref01_times_b2)))
      (.seq
       (.reg [] [
         ⟨(some 79), .cn (.t 5), none, [5]⟩,
         ⟨(some 4), .cn (.t 79), none, [79]⟩])
       (.ret i_ref01_times_r)))))),
  [.tmp 4], [], false, []⟩

def i_ref04_Digest_r : List Bool := [false, false, false, false, false, false, true, true, false, false, false, false, false, false, false, false, false, false, false, false, false, false, false, false, false, false, false, false, false, false, false, false, false, false, false, false, false, false, false, false, false, false, false, false, false, false, false, false, false, false, false, false, false, false, false, false, false, false, false, false, false, false, false, false, false, false, false, false, false, false, false, false, false, false, false, false, false, false, false, false, false, false, false, false, false, false]
def i_ref04_Digest_j0 : List Bool := [false, true, false, true, false, true, false, false, false, false, false, false, false, false, false, false, false, false, false, false, false, false, false, false, false, false, false, false, false, false, false, false, false, false, false, false, false, false, false, false, false, false, false, false, false, false, false, false, false, false, false, false, false, false, false, false, false, false, false, false, false, false, false, false, false, false, false, false, false, false, false, false, false, false, false, false, false, false, false, false, false, false, false, false, false, false]
/-- heartwood/heartwoodref04.Digest -/
def i_ref04_Digest : Ev.Fn := ⟨3, 86, 2,
  (.seq
   (.reg [] [
     ⟨(some 3), .box 0 9 (.t 0), none, []⟩,
     ⟨(some 5), .box 1 5 (.t 2), none, []⟩,
     ⟨(some 6), .cn (.k (.slice none 0 0)), none, []⟩,
     ⟨(some 7), .mv (.k (.bool false)), none, []⟩])
   (.seq
    (.seq
     (.reg [] [
       ⟨(some 14), .fa 0 (.t 5), none, []⟩,
       ⟨(some 15), .load false 1 (.t 14), none, []⟩])
     (.block 0 i_ref04_Digest_j0
      (.seq
       (.reg [] [
         ⟨(some 17), .bin .plain .eql (.t 15) (.k (.int .i64 0)), none, []⟩,
         ⟨(some 16), .mv (.t 17), none, []⟩])
       (.cond (.t 16)
        (.seq
         (.reg [] [
           ⟨(some 18), .load true 9 (.t 3), none, []⟩,
           ⟨(some 19), .mv (.t 1), none, []⟩,
           ⟨(some 20), .litd 1 1 [(.int .u8 0)] [(0, (.k (.int .u8 3)))], none, []⟩,
           ⟨(some 21), .qcall n_ref03_Of [(.t 18), (.t 19), (.t 20)] [], none, []⟩,
           ⟨(some 6), .cn (.t 21), none, []⟩,
           ⟨(some 7), .mv (.k (.bool true)), none, []⟩])
         (.ret i_ref04_Digest_r))
        (.seq
         (.reg [] [
           ⟨(some 23), .bin .plain .eql (.t 15) (.k (.int .i64 3)), none, []⟩,
           ⟨(some 22), .mv (.t 23), none, []⟩])
         (.cond (.t 22)
          (.seq
           (.reg [] [
             ⟨(some 24), .fa 3 (.t 5), none, []⟩,
             ⟨(some 25), .load false 1 (.t 24), none, []⟩,
             ⟨(some 26), .fa 3 (.t 5), none, []⟩,
             ⟨(some 27), .load false 1 (.t 26), none, []⟩,
             ⟨(some 28), .len false (.t 27), none, []⟩,
             ⟨(some 29), .mv (.t 1), none, []⟩,
             ⟨(some 30), .bin .plain .eql (.t 28) (.t 29), none, []⟩,
             ⟨(some 6), .cn (.t 25), none, []⟩,
             ⟨(some 7), .mv (.t 30), none, []⟩])
           (.ret i_ref04_Digest_r))
          .skip))))))
    (.seq
     (.reg [] [
       ⟨(some 31), .fa 3 (.t 5), none, []⟩,
       ⟨(some 32), .load false 1 (.t 31), none, []⟩,
       ⟨(some 8), .cn (.t 32), none, []⟩])
     (.seq
      (.seq
       (.reg [] [
         ⟨(some 33), .fa 0 (.t 5), none, []⟩,
         ⟨(some 34), .load false 1 (.t 33), none, []⟩,
         ⟨(some 35), .bin .plain .eql (.t 34) (.k (.int .i64 1)), none, []⟩])
       (.cond (.t 35)
        (.reg [] [
          ⟨(some 36), .load true 9 (.t 3), none, []⟩,
          ⟨(some 37), .mv (.t 1), none, []⟩,
          ⟨(some 38), .fa 2 (.t 5), none, []⟩,
          ⟨(some 39), .load false 1 (.t 38), none, []⟩,
          ⟨(some 40), .qcall n_ref03_Value [(.t 39)] [], none, []⟩,
          ⟨(some 41), .qcall n_ref03_Of [(.t 36), (.t 37), (.t 40)] [], none, []⟩,
          ⟨(some 8), .cn (.t 41), none, []⟩])
        .skip))
      (.seq
       (.seq
        (.reg [] [
          ⟨(some 42), .cn (.t 8), none, []⟩,
          ⟨(some 43), .len false (.t 42), none, []⟩,
          ⟨(some 44), .mv (.t 1), none, []⟩,
          ⟨(some 45), .bin .plain .neq (.t 43) (.t 44), none, []⟩])
        (.cond (.t 45)
         (.seq
          (.reg [] [
            ⟨(some 6), .cn (.k (.slice none 0 0)), none, []⟩,
            ⟨(some 7), .mv (.k (.bool false)), none, []⟩])
          (.ret i_ref04_Digest_r))
         .skip))
       (.seq
        (.reg [] [
          ⟨(some 47), .load true 9 (.t 3), none, []⟩,
          ⟨(some 48), .mv (.t 1), none, []⟩,
          ⟨(some 49), .fa 4 (.t 5), none, []⟩,
          ⟨(some 50), .load false 1 (.t 49), none, []⟩,
          ⟨(some 51), .ia 5 (.t 50) (.k (.int .i64 0)), none, []⟩,
          ⟨(some 52), .load true 5 (.t 51), none, []⟩,
          ⟨(some 53), .qcall n_ref04_Digest [(.t 47), (.t 48), (.t 52)] [], none, []⟩,
          ⟨(some 46), .mv (.t 53), none, []⟩,
          ⟨(some 54), .ext 0 (.t 46), none, []⟩,
          ⟨(some 55), .ext 1 (.t 46), none, []⟩,
          ⟨(some 9), .cn (.t 54), none, []⟩,
          ⟨(some 10), .mv (.t 55), none, []⟩])
        (.seq
         (.reg [] [
           ⟨(some 57), .load true 9 (.t 3), none, []⟩,
           ⟨(some 58), .mv (.t 1), none, []⟩,
           ⟨(some 59), .fa 4 (.t 5), none, []⟩,
           ⟨(some 60), .load false 1 (.t 59), none, []⟩,
           ⟨(some 61), .ia 5 (.t 60) (.k (.int .i64 1)), none, []⟩,
           ⟨(some 62), .load true 5 (.t 61), none, []⟩,
           ⟨(some 63), .qcall n_ref04_Digest [(.t 57), (.t 58), (.t 62)] [], none, []⟩,
           ⟨(some 56), .mv (.t 63), none, []⟩,
           ⟨(some 64), .ext 0 (.t 56), none, []⟩,
           ⟨(some 65), .ext 1 (.t 56), none, []⟩,
           ⟨(some 11), .cn (.t 64), none, []⟩,
           ⟨(some 12), .mv (.t 65), none, []⟩])
         (.seq
          (.seq
           (.reg [] [
             ⟨(some 66), .mv (.t 10), none, []⟩,
             ⟨(some 67), .un .not (.t 66), none, []⟩,
             ⟨(some 68), .mv (.t 67), none, []⟩,
             ⟨(some 69), .mv (.t 12), (some (68, false)), []⟩,
             ⟨(some 70), .un .not (.t 69), (some (68, false)), []⟩,
             ⟨(some 71), .pick (.t 68) (.k (.bool true)) (.t 70), none, []⟩])
           (.cond (.t 71)
            (.seq
             (.reg [] [
               ⟨(some 6), .cn (.k (.slice none 0 0)), none, []⟩,
               ⟨(some 7), .mv (.k (.bool false)), none, []⟩])
             (.ret i_ref04_Digest_r))
            .skip))
          (.seq
           (.reg [] [
             ⟨(some 72), .load true 9 (.t 3), none, []⟩,
             ⟨(some 73), .mv (.t 1), none, []⟩,
             ⟨(some 74), .fa 1 (.t 5), none, []⟩,
             ⟨(some 75), .load false 1 (.t 74), none, []⟩,
             ⟨(some 76), .cn (.t 8), none, []⟩,
             ⟨(some 77), .qcall n_ref03_Pair [(.t 75), (.t 76)] [], none, []⟩,
             ⟨(some 78), .qcall n_ref03_Of [(.t 72), (.t 73), (.t 77)] [], none, []⟩,
             ⟨(some 13), .cn (.t 78), none, []⟩])
           (.seq
            (.reg [] [
              ⟨(some 79), .load true 9 (.t 3), none, []⟩,
              ⟨(some 80), .mv (.t 1), none, []⟩,
              ⟨(some 81), .cn (.t 9), none, []⟩,
              ⟨(some 82), .cn (.t 13), none, []⟩,
              ⟨(some 83), .cn (.t 11), none, []⟩,
              ⟨(some 84), .qcall n_ref03_Node [(.t 81), (.t 82), (.t 83)] [], none, []⟩,
              ⟨(some 85), .qcall n_ref03_Of [(.t 79), (.t 80), (.t 84)] [], none, []⟩,
              ⟨(some 6), .cn (.t 85), none, []⟩,
              ⟨(some 7), .mv (.k (.bool true)), none, []⟩])
            (.ret i_ref04_Digest_r))))))))))),
  [.tmp 6, .tmp 7], [], false, []⟩

def i_ref03_Of_r : List Bool := [false, false, false, false, false, false, true, false, false, false, false, false]
/-- heartwood/heartwoodref03.Of -/
def i_ref03_Of : Ev.Fn := ⟨3, 12, 1,
  (.seq
   (.reg [] [
     ⟨(some 3), .box 0 9 (.t 0), none, []⟩,
     ⟨(some 6), .cn (.k (.slice none 0 0)), none, []⟩])
   (.seq
    (.reg [] [
      ⟨(some 7), .load true 9 (.t 3), none, []⟩,
      ⟨(some 8), .cn (.t 2), none, []⟩,
      ⟨(some 9), .qcall n_ref01_Tables_Sum [(.t 7), (.t 8)] [], none, []⟩,
      ⟨(some 10), .mv (.t 1), none, []⟩,
      ⟨(some 11), .slice 1 (.t 9) none (some (.t 10)) none, none, []⟩,
      ⟨(some 6), .cn (.t 11), none, []⟩])
    (.ret i_ref03_Of_r))),
  [.tmp 6], [], false, []⟩

def i_ref01_Tables_Sum_r : List Bool := [false, false, false, false, true, false, false, false, false, false, false, false, false, false, false, false, false, false, false, false, false, false, false, false, false, false, false, false, false, false, false, false, false, false, false, false, false, false, false, false, false, false, false, false, false, false, false, false, false, false, false, false, false]
def i_ref01_Tables_Sum_j1 : List Bool := [false, false, true, false, false, true, true, true, false, false, false, false, false, false, false, false, false, false, false, false, false, false, false, false, false, false, false, false, false, false, false, false, false, false, false, false, false, false, false, false, false, false, false, false, false, false, false, false, false, false, false, false, false]
def i_ref01_Tables_Sum_k0 : List Bool := [false, false, true, false, false, true, true, true, false, false, false, false, false, false, false, false, false, false, false, false, false, false, false, false, false, false, false, false, false, false, false, false, false, false, false, false, false, false, false, false, false, false, false, false, false, false, false, false, false, false, false, false, false]
def i_ref01_Tables_Sum_j0 : List Bool := [false, false, false, false, false, false, true, false, false, false, false, false, false, false, false, false, false, false, false, false, false, false, false, false, false, false, false, false, false, false, false, false, false, false, false, false, false, false, false, false, false, false, false, false, false, false, false, false, false, false, false, false, false]
def i_ref01_Tables_Sum_j3 : List Bool := [false, false, false, false, false, false, true, false, true, true, false, false, false, false, false, false, false, false, false, false, false, false, false, false, false, false, false, false, false, false, false, false, false, false, false, false, false, false, false, false, false, false, false, false, false, false, false, false, false, false, false, false, false]
def i_ref01_Tables_Sum_k1 : List Bool := [false, false, false, false, false, false, true, false, true, true, false, false, false, false, false, false, false, false, false, false, false, false, false, false, false, false, false, false, false, false, false, false, false, false, false, false, false, false, false, false, false, false, false, false, false, false, false, false, false, false, false, false, false]
def i_ref01_Tables_Sum_j2 : List Bool := [false, false, false, false, false, false, false, false, true, false, false, false, false, false, false, false, false, false, false, false, false, false, false, false, false, false, false, false, false, false, false, false, false, false, false, false, false, false, false, false, false, false, false, false, false, false, false, false, false, false, false, false, false]
abbrev s_ref01_Tables_Sum_R (t4 : AV) (h : Heap) : St := ⟨[.undef, .undef, .undef, .undef, t4, .undef, .undef, .undef, .undef, .undef, .undef, .undef, .undef, .undef, .undef, .undef, .undef, .undef, .undef, .undef, .undef, .undef, .undef, .undef, .undef, .undef, .undef, .undef, .undef, .undef, .undef, .undef, .undef, .undef, .undef, .undef, .undef, .undef, .undef, .undef, .undef, .undef, .undef, .undef, .undef, .undef, .undef, .undef, .undef, .undef, .undef, .undef, .undef], h⟩
abbrev s_ref01_Tables_Sum_K0 (t2 t5 t6 t7 : AV) (h : Heap) : St := ⟨[.undef, .undef, t2, .undef, .undef, t5, t6, t7, .undef, .undef, .undef, .undef, .undef, .undef, .undef, .undef, .undef, .undef, .undef, .undef, .undef, .undef, .undef, .undef, .undef, .undef, .undef, .undef, .undef, .undef, .undef, .undef, .undef, .undef, .undef, .undef, .undef, .undef, .undef, .undef, .undef, .undef, .undef, .undef, .undef, .undef, .undef, .undef, .undef, .undef, .undef, .undef, .undef], h⟩
def i_ref01_Tables_Sum_b0 : IR :=
  (.seq
   (.seq
    (.reg [] [
      ⟨(some 20), .mv (.t 7), none, []⟩,
      ⟨(some 21), .cn (.t 5), none, []⟩,
      ⟨(some 22), .len false (.t 21), none, []⟩,
      ⟨(some 23), .bin .plain .lss (.t 20) (.t 22), none, []⟩])
    (.cond (.t 23)
     .skip
     (.exit 0 i_ref01_Tables_Sum_j0)))
   (.seq
    (.block 1 i_ref01_Tables_Sum_j1
     (.reg [(0, 6), (1, 6)] [
       ⟨(some 26), .load true 9 (.t 2), none, []⟩,
       ⟨(some 27), .load true 8 (.t 6), none, []⟩,
       ⟨(some 28), .cn (.t 5), none, []⟩,
       ⟨(some 29), .mv (.t 7), none, []⟩,
       ⟨(some 30), .mv (.t 7), none, []⟩,
       ⟨(some 31), .bin .plain .add (.t 30) (.k (.int .i64 64)), none, []⟩,
       ⟨(some 32), .slice 1 (.t 28) (some (.t 29)) (some (.t 31)) none, none, [28]⟩,
       ⟨(some 33), .qcall n_ref01_Tables_Step [(.t 26), (.t 27), (.t 32)] [], none, []⟩,
       ⟨none, .store 8 (.t 6) (.t 33), none, []⟩]))
    (.reg [] [
      ⟨(some 24), .mv (.t 7), none, []⟩,
      ⟨(some 25), .bin .plain .add (.t 24) (.k (.int .i64 64)), none, []⟩,
      ⟨(some 7), .mv (.t 25), none, []⟩])))

abbrev s_ref01_Tables_Sum_J0 (t6 : AV) (h : Heap) : St := ⟨[.undef, .undef, .undef, .undef, .undef, .undef, t6, .undef, .undef, .undef, .undef, .undef, .undef, .undef, .undef, .undef, .undef, .undef, .undef, .undef, .undef, .undef, .undef, .undef, .undef, .undef, .undef, .undef, .undef, .undef, .undef, .undef, .undef, .undef, .undef, .undef, .undef, .undef, .undef, .undef, .undef, .undef, .undef, .undef, .undef, .undef, .undef, .undef, .undef, .undef, .undef, .undef, .undef], h⟩
abbrev s_ref01_Tables_Sum_K1 (t6 t8 t9 : AV) (h : Heap) : St := ⟨[.undef, .undef, .undef, .undef, .undef, .undef, t6, .undef, t8, t9, .undef, .undef, .undef, .undef, .undef, .undef, .undef, .undef, .undef, .undef, .undef, .undef, .undef, .undef, .undef, .undef, .undef, .undef, .undef, .undef, .undef, .undef, .undef, .undef, .undef, .undef, .undef, .undef, .undef, .undef, .undef, .undef, .undef, .undef, .undef, .undef, .undef, .undef, .undef, .undef, .undef, .undef, .undef], h⟩
def i_ref01_Tables_Sum_b1 : IR :=
  (.seq
   (.seq
    (.reg [] [
      ⟨(some 35), .mv (.t 9), none, []⟩,
      ⟨(some 36), .bin .plain .lss (.t 35) (.k (.int .i64 32)), none, []⟩])
    (.cond (.t 36)
     .skip
     (.exit 2 i_ref01_Tables_Sum_j2)))
   (.seq
    (.block 3 i_ref01_Tables_Sum_j3
     (.reg [] [
       ⟨(some 39), .mv (.t 8), none, []⟩,
       ⟨(some 40), .mv (.t 9), none, []⟩,
       ⟨(some 41), .mv (.t 9), none, []⟩,
       ⟨(some 42), .bin .plain .quo (.t 41) (.k (.int .i64 4)), none, []⟩,
       ⟨(some 43), .iap 8 1 (.t 6) (.t 42), none, []⟩,
       ⟨(some 44), .load false 1 (.t 43), none, []⟩,
       ⟨(some 45), .mv (.t 9), none, []⟩,
       ⟨(some 46), .bin .plain .rem (.t 45) (.k (.int .i64 4)), none, []⟩,
       ⟨(some 47), .bin .plain .mul (.k (.int .i64 8)) (.t 46), none, []⟩,
       ⟨(some 48), .bin .plain .sub (.k (.int .i64 24)) (.t 47), none, []⟩,
       ⟨(some 49), .bin .plain .shr (.t 44) (.t 48), none, []⟩,
       ⟨(some 50), .conv .u8 (.t 49), none, []⟩,
       ⟨(some 51), .ia 1 (.t 39) (.t 40), none, []⟩,
       ⟨none, .store 1 (.t 51) (.t 50), none, []⟩]))
    (.reg [] [
      ⟨(some 37), .mv (.t 9), none, []⟩,
      ⟨(some 38), .bin .plain .add (.t 37) (.k (.int .i64 1)), none, []⟩,
      ⟨(some 9), .mv (.t 38), none, []⟩])))

abbrev s_ref01_Tables_Sum_J2 (t8 : AV) (h : Heap) : St := ⟨[.undef, .undef, .undef, .undef, .undef, .undef, .undef, .undef, t8, .undef, .undef, .undef, .undef, .undef, .undef, .undef, .undef, .undef, .undef, .undef, .undef, .undef, .undef, .undef, .undef, .undef, .undef, .undef, .undef, .undef, .undef, .undef, .undef, .undef, .undef, .undef, .undef, .undef, .undef, .undef, .undef, .undef, .undef, .undef, .undef, .undef, .undef, .undef, .undef, .undef, .undef, .undef, .undef], h⟩
/-- (heartwood/heartwoodref01.Tables).Sum -/
def i_ref01_Tables_Sum : Ev.Fn := ⟨2, 53, 4,
  (.seq
   (.reg [] [
     ⟨(some 2), .box 0 9 (.t 0), none, []⟩,
     ⟨(some 4), .cn (.k (.slice none 0 0)), none, []⟩])
   (.seq
    (.reg [] [
      ⟨(some 10), .lit 1 ty_uint8 1 0 [(.int .u8 0)] [], none, []⟩,
      ⟨(some 11), .cn (.t 1), none, []⟩,
      ⟨(some 12), .app 1 ty_uint8 1 1 (.t 10) (.t 11), none, []⟩,
      ⟨(some 5), .mv (.t 12), none, []⟩])
    (.seq
     (.reg [] [
       ⟨(some 13), .mv (.t 5), none, []⟩,
       ⟨(some 14), .cn (.t 1), none, []⟩,
       ⟨(some 15), .len false (.t 14), none, []⟩,
       ⟨(some 16), .qcall n_ref01_Tail [(.t 15)] [], none, []⟩,
       ⟨(some 17), .app 1 ty_uint8 1 1 (.t 13) (.t 16), none, []⟩,
       ⟨(some 5), .mv (.t 17), none, []⟩])
     (.seq
      (.reg [] [
        ⟨(some 18), .fa 1 (.t 2), none, []⟩,
        ⟨(some 19), .load true 8 (.t 18), none, []⟩,
        ⟨(some 6), .new 2 [(.int .u32 0), (.int .u32 0), (.int .u32 0), (.int .u32 0), (.int .u32 0), (.int .u32 0), (.int .u32 0), (.int .u32 0)], none, []⟩,
        ⟨none, .store 8 (.t 6) (.t 19), none, []⟩])
      (.seq
       (.seq
        (.reg [] [
          ⟨(some 7), .mv (.k (.int .i64 0)), none, []⟩])
        (.block 0 i_ref01_Tables_Sum_j0
         (.loop i_ref01_Tables_Sum_k0 i_ref01_Tables_Sum_b0)))
       (.seq
        (.reg [] [
          ⟨(some 34), .make 3 ty_uint8 1 1 [(.int .u8 0)] (.k (.int .i64 32)) (.k (.int .i64 32)), none, []⟩,
          ⟨(some 8), .mv (.t 34), none, []⟩])
        (.seq
         (.seq
          (.reg [] [
            ⟨(some 9), .mv (.k (.int .i64 0)), none, []⟩])
          (.block 2 i_ref01_Tables_Sum_j2
           (.loop i_ref01_Tables_Sum_k1 i_ref01_Tables_Sum_b1)))
         (.seq
          (.reg [] [
            ⟨(some 52), .cn (.t 8), none, [8]⟩,
            ⟨(some 4), .cn (.t 52), none, [52]⟩])
          (.ret i_ref01_Tables_Sum_r))))))))),
  [.tmp 4], [], false, []⟩

def i_ref01_Tail_r : List Bool := [false, false, true, false, false, false, false, false, false, false, false, false, false, false, false, false, false, false, false, false, false, false, false, false, false, false, false, false, false, false, false, false, false, false, false, false]
def i_ref01_Tail_j1 : List Bool := [true, false, false, true, false, false, false, false, false, false, false, false, false, false, false, false, false, false, false, false, false, false, false, false, false, false, false, false, false, false, false, false, false, false, false, false]
def i_ref01_Tail_k0 : List Bool := [true, false, false, true, false, false, false, false, false, false, false, false, false, false, false, false, false, false, false, false, false, false, false, false, false, false, false, false, false, false, false, false, false, false, false, false]
def i_ref01_Tail_j0 : List Bool := [true, false, false, true, false, false, false, false, false, false, false, false, false, false, false, false, false, false, false, false, false, false, false, false, false, false, false, false, false, false, false, false, false, false, false, false]
def i_ref01_Tail_j3 : List Bool := [false, false, false, true, true, true, true, false, false, false, false, false, false, false, false, false, false, false, false, false, false, false, false, false, false, false, false, false, false, false, false, false, false, false, false, false]
def i_ref01_Tail_k1 : List Bool := [false, false, false, true, true, true, true, false, false, false, false, false, false, false, false, false, false, false, false, false, false, false, false, false, false, false, false, false, false, false, false, false, false, false, false, false]
def i_ref01_Tail_j2 : List Bool := [false, false, false, true, true, false, false, false, false, false, false, false, false, false, false, false, false, false, false, false, false, false, false, false, false, false, false, false, false, false, false, false, false, false, false, false]
abbrev s_ref01_Tail_R (t2 : AV) (h : Heap) : St := ⟨[.undef, .undef, t2, .undef, .undef, .undef, .undef, .undef, .undef, .undef, .undef, .undef, .undef, .undef, .undef, .undef, .undef, .undef, .undef, .undef, .undef, .undef, .undef, .undef, .undef, .undef, .undef, .undef, .undef, .undef, .undef, .undef, .undef, .undef, .undef, .undef], h⟩
abbrev s_ref01_Tail_K0 (t0 t3 : AV) (h : Heap) : St := ⟨[t0, .undef, .undef, t3, .undef, .undef, .undef, .undef, .undef, .undef, .undef, .undef, .undef, .undef, .undef, .undef, .undef, .undef, .undef, .undef, .undef, .undef, .undef, .undef, .undef, .undef, .undef, .undef, .undef, .undef, .undef, .undef, .undef, .undef, .undef, .undef], h⟩
def i_ref01_Tail_b0 : IR :=
  (.seq
   (.seq
    (.reg [] [
      ⟨(some 8), .mv (.t 0), none, []⟩,
      ⟨(some 9), .cn (.t 3), none, []⟩,
      ⟨(some 10), .len false (.t 9), none, []⟩,
      ⟨(some 11), .bin .plain .add (.t 8) (.t 10), none, []⟩,
      ⟨(some 12), .bin .plain .rem (.t 11) (.k (.int .i64 64)), none, []⟩,
      ⟨(some 13), .bin .plain .neq (.t 12) (.k (.int .i64 56)), none, []⟩])
    (.cond (.t 13)
     .skip
     (.exit 0 i_ref01_Tail_j0)))
   (.block 1 i_ref01_Tail_j1
    (.reg [] [
      ⟨(some 14), .mv (.t 3), none, []⟩,
      ⟨(some 15), .litd 1 1 [(.int .u8 0)] [(0, (.k (.int .u8 0)))], none, []⟩,
      ⟨(some 16), .app 0 ty_uint8 1 1 (.t 14) (.t 15), none, []⟩,
      ⟨(some 3), .mv (.t 16), none, []⟩])))

abbrev s_ref01_Tail_J0 (t0 t3 : AV) (h : Heap) : St := ⟨[t0, .undef, .undef, t3, .undef, .undef, .undef, .undef, .undef, .undef, .undef, .undef, .undef, .undef, .undef, .undef, .undef, .undef, .undef, .undef, .undef, .undef, .undef, .undef, .undef, .undef, .undef, .undef, .undef, .undef, .undef, .undef, .undef, .undef, .undef, .undef], h⟩
abbrev s_ref01_Tail_K1 (t3 t4 t5 t6 : AV) (h : Heap) : St := ⟨[.undef, .undef, .undef, t3, t4, t5, t6, .undef, .undef, .undef, .undef, .undef, .undef, .undef, .undef, .undef, .undef, .undef, .undef, .undef, .undef, .undef, .undef, .undef, .undef, .undef, .undef, .undef, .undef, .undef, .undef, .undef, .undef, .undef, .undef, .undef], h⟩
def i_ref01_Tail_b1 : IR :=
  (.seq
   (.seq
    (.reg [] [
      ⟨(some 21), .mv (.t 6), none, []⟩,
      ⟨(some 22), .bin .plain .geq (.t 21) (.k (.int .i64 0)), none, []⟩])
    (.cond (.t 22)
     .skip
     (.exit 2 i_ref01_Tail_j2)))
   (.seq
    (.block 3 i_ref01_Tail_j3
     (.seq
      (.reg [] [
        ⟨(some 25), .mv (.t 4), none, []⟩,
        ⟨(some 26), .mv (.t 6), none, []⟩,
        ⟨(some 27), .mv (.t 5), none, []⟩,
        ⟨(some 28), .bin .plain .rem (.t 27) (.k (.int .u64 256)), none, []⟩,
        ⟨(some 29), .conv .u8 (.t 28), none, []⟩,
        ⟨(some 30), .ia 1 (.t 25) (.t 26), none, []⟩,
        ⟨none, .store 1 (.t 30) (.t 29), none, []⟩])
      (.reg [] [
        ⟨(some 31), .mv (.t 5), none, []⟩,
        ⟨(some 32), .bin .plain .quo (.t 31) (.k (.int .u64 256)), none, []⟩,
        ⟨(some 5), .mv (.t 32), none, []⟩])))
    (.reg [] [
      ⟨(some 23), .mv (.t 6), none, []⟩,
      ⟨(some 24), .bin .plain .sub (.t 23) (.k (.int .i64 1)), none, []⟩,
      ⟨(some 6), .mv (.t 24), none, []⟩])))

abbrev s_ref01_Tail_J2 (t3 t4 : AV) (h : Heap) : St := ⟨[.undef, .undef, .undef, t3, t4, .undef, .undef, .undef, .undef, .undef, .undef, .undef, .undef, .undef, .undef, .undef, .undef, .undef, .undef, .undef, .undef, .undef, .undef, .undef, .undef, .undef, .undef, .undef, .undef, .undef, .undef, .undef, .undef, .undef, .undef, .undef], h⟩
/-- heartwood/heartwoodref01.Tail -/
def i_ref01_Tail : Ev.Fn := ⟨1, 36, 2,
  (.seq
   (.reg [] [
     ⟨(some 2), .cn (.k (.slice none 0 0)), none, []⟩])
   (.seq
    (.reg [] [
      ⟨(some 7), .lit 0 ty_uint8 1 1 [(.int .u8 0)] [(0, (.k (.int .u8 128)))], none, []⟩,
      ⟨(some 3), .mv (.t 7), none, []⟩])
    (.seq
     (.block 0 i_ref01_Tail_j0
      (.loop i_ref01_Tail_k0 i_ref01_Tail_b0))
     (.seq
      (.reg [] [
        ⟨(some 17), .make 1 ty_uint8 1 1 [(.int .u8 0)] (.k (.int .i64 8)) (.k (.int .i64 8)), none, []⟩,
        ⟨(some 4), .mv (.t 17), none, []⟩])
      (.seq
       (.reg [] [
         ⟨(some 18), .mv (.t 0), none, []⟩,
         ⟨(some 19), .conv .u64 (.t 18), none, []⟩,
         ⟨(some 20), .bin .plain .mul (.k (.int .u64 8)) (.t 19), none, []⟩,
         ⟨(some 5), .mv (.t 20), none, []⟩])
       (.seq
        (.seq
         (.reg [] [
           ⟨(some 6), .mv (.k (.int .i64 7)), none, []⟩])
         (.block 2 i_ref01_Tail_j2
          (.loop i_ref01_Tail_k1 i_ref01_Tail_b1)))
        (.seq
         (.reg [] [
           ⟨(some 33), .mv (.t 3), none, []⟩,
           ⟨(some 34), .cn (.t 4), none, [4]⟩,
           ⟨(some 35), .app 0 ty_uint8 1 1 (.t 33) (.t 34), none, []⟩,
           ⟨(some 2), .cn (.t 35), none, [35]⟩])
         (.ret i_ref01_Tail_r)))))))),
  [.tmp 2], [], false, []⟩

def i_ref01_Tables_Step_r : List Bool := [false, false, false, false, false, false, true, false, false, false, false, false, false, false, false, false, false, false, false, false, false, false, false, false, false, false, false, false, false, false, false, false, false, false, false, false, false, false, false, false, false, false, false]
def i_ref01_Tables_Step_j1 : List Bool := [false, false, false, true, true, false, true, true, true, true, false, false, false, false, false, false, false, false, false, false, false, false, false, false, false, false, false, false, false, false, false, false, false, false, false, false, false, false, false, false, false, false, false]
def i_ref01_Tables_Step_k0 : List Bool := [false, false, false, true, true, false, true, true, true, true, false, false, false, false, false, false, false, false, false, false, false, false, false, false, false, false, false, false, false, false, false, false, false, false, false, false, false, false, false, false, false, false, false]
def i_ref01_Tables_Step_j0 : List Bool := [false, false, false, false, true, false, true, false, true, false, false, false, false, false, false, false, false, false, false, false, false, false, false, false, false, false, false, false, false, false, false, false, false, false, false, false, false, false, false, false, false, false, false]
def i_ref01_Tables_Step_j3 : List Bool := [false, false, false, false, true, false, true, false, true, false, true, false, false, false, false, false, false, false, false, false, false, false, false, false, false, false, false, false, false, false, false, false, false, false, false, false, false, false, false, false, false, false, false]
def i_ref01_Tables_Step_k1 : List Bool := [false, false, false, false, true, false, true, false, true, false, true, false, false, false, false, false, false, false, false, false, false, false, false, false, false, false, false, false, false, false, false, false, false, false, false, false, false, false, false, false, false, false, false]
def i_ref01_Tables_Step_j2 : List Bool := [false, false, false, false, false, false, true, false, true, false, false, false, false, false, false, false, false, false, false, false, false, false, false, false, false, false, false, false, false, false, false, false, false, false, false, false, false, false, false, false, false, false, false]
abbrev s_ref01_Tables_Step_R (t6 : AV) (h : Heap) : St := ⟨[.undef, .undef, .undef, .undef, .undef, .undef, t6, .undef, .undef, .undef, .undef, .undef, .undef, .undef, .undef, .undef, .undef, .undef, .undef, .undef, .undef, .undef, .undef, .undef, .undef, .undef, .undef, .undef, .undef, .undef, .undef, .undef, .undef, .undef, .undef, .undef, .undef, .undef, .undef, .undef, .undef, .undef, .undef], h⟩
abbrev s_ref01_Tables_Step_K0 (t3 t4 t6 t7 t8 t9 : AV) (h : Heap) : St := ⟨[.undef, .undef, .undef, t3, t4, .undef, t6, t7, t8, t9, .undef, .undef, .undef, .undef, .undef, .undef, .undef, .undef, .undef, .undef, .undef, .undef, .undef, .undef, .undef, .undef, .undef, .undef, .undef, .undef, .undef, .undef, .undef, .undef, .undef, .undef, .undef, .undef, .undef, .undef, .undef, .undef, .undef], h⟩
def i_ref01_Tables_Step_b0 : IR :=
  (.seq
   (.seq
    (.reg [] [
      ⟨(some 14), .mv (.t 9), none, []⟩,
      ⟨(some 15), .bin .plain .lss (.t 14) (.k (.int .i64 64)), none, []⟩])
    (.cond (.t 15)
     .skip
     (.exit 0 i_ref01_Tables_Step_j0)))
   (.seq
    (.block 1 i_ref01_Tables_Step_j1
     (.reg [] [
       ⟨(some 18), .load true 8 (.t 8), none, []⟩,
       ⟨(some 19), .fa 0 (.t 3), none, []⟩,
       ⟨(some 20), .load false 1 (.t 19), none, []⟩,
       ⟨(some 21), .mv (.t 9), none, []⟩,
       ⟨(some 22), .ia 1 (.t 20) (.t 21), none, []⟩,
       ⟨(some 23), .load false 1 (.t 22), none, []⟩,
       ⟨(some 24), .cn (.t 7), none, []⟩,
       ⟨(some 25), .mv (.t 9), none, []⟩,
       ⟨(some 26), .ia 1 (.t 24) (.t 25), none, []⟩,
       ⟨(some 27), .load false 1 (.t 26), none, []⟩,
       ⟨(some 28), .qcall n_ref01_Round [(.t 18), (.t 23), (.t 27)] [], none, []⟩,
       ⟨none, .store 8 (.t 8) (.t 28), none, []⟩]))
    (.reg [] [
      ⟨(some 16), .mv (.t 9), none, []⟩,
      ⟨(some 17), .bin .plain .add (.t 16) (.k (.int .i64 1)), none, []⟩,
      ⟨(some 9), .mv (.t 17), none, []⟩])))

abbrev s_ref01_Tables_Step_J0 (t4 t6 t8 : AV) (h : Heap) : St := ⟨[.undef, .undef, .undef, .undef, t4, .undef, t6, .undef, t8, .undef, .undef, .undef, .undef, .undef, .undef, .undef, .undef, .undef, .undef, .undef, .undef, .undef, .undef, .undef, .undef, .undef, .undef, .undef, .undef, .undef, .undef, .undef, .undef, .undef, .undef, .undef, .undef, .undef, .undef, .undef, .undef, .undef, .undef], h⟩
abbrev s_ref01_Tables_Step_K1 (t4 t6 t8 t10 : AV) (h : Heap) : St := ⟨[.undef, .undef, .undef, .undef, t4, .undef, t6, .undef, t8, .undef, t10, .undef, .undef, .undef, .undef, .undef, .undef, .undef, .undef, .undef, .undef, .undef, .undef, .undef, .undef, .undef, .undef, .undef, .undef, .undef, .undef, .undef, .undef, .undef, .undef, .undef, .undef, .undef, .undef, .undef, .undef, .undef, .undef], h⟩
def i_ref01_Tables_Step_b1 : IR :=
  (.seq
   (.seq
    (.reg [] [
      ⟨(some 29), .mv (.t 10), none, []⟩,
      ⟨(some 30), .bin .plain .lss (.t 29) (.k (.int .i64 8)), none, []⟩])
    (.cond (.t 30)
     .skip
     (.exit 2 i_ref01_Tables_Step_j2)))
   (.seq
    (.block 3 i_ref01_Tables_Step_j3
     (.reg [] [
       ⟨(some 33), .mv (.t 10), none, []⟩,
       ⟨(some 34), .mv (.t 10), none, []⟩,
       ⟨(some 35), .iap 8 1 (.t 8) (.t 34), none, []⟩,
       ⟨(some 36), .load false 1 (.t 35), none, []⟩,
       ⟨(some 37), .mv (.t 10), none, []⟩,
       ⟨(some 38), .iap 8 1 (.t 4) (.t 37), none, []⟩,
       ⟨(some 39), .load false 1 (.t 38), none, []⟩,
       ⟨(some 40), .bin .plain .add (.t 36) (.t 39), none, []⟩,
       ⟨(some 41), .iap 8 1 (.t 8) (.t 33), none, []⟩,
       ⟨none, .store 1 (.t 41) (.t 40), none, []⟩]))
    (.reg [] [
      ⟨(some 31), .mv (.t 10), none, []⟩,
      ⟨(some 32), .bin .plain .add (.t 31) (.k (.int .i64 1)), none, []⟩,
      ⟨(some 10), .mv (.t 32), none, []⟩])))

abbrev s_ref01_Tables_Step_J2 (t6 t8 : AV) (h : Heap) : St := ⟨[.undef, .undef, .undef, .undef, .undef, .undef, t6, .undef, t8, .undef, .undef, .undef, .undef, .undef, .undef, .undef, .undef, .undef, .undef, .undef, .undef, .undef, .undef, .undef, .undef, .undef, .undef, .undef, .undef, .undef, .undef, .undef, .undef, .undef, .undef, .undef, .undef, .undef, .undef, .undef, .undef, .undef, .undef], h⟩
/-- (heartwood/heartwoodref01.Tables).Step -/
def i_ref01_Tables_Step : Ev.Fn := ⟨3, 43, 4,
  (.seq
   (.reg [] [
     ⟨(some 3), .box 0 9 (.t 0), none, []⟩,
     ⟨(some 4), .box 1 8 (.t 1), none, []⟩,
     ⟨(some 6), .new 2 [(.int .u32 0), (.int .u32 0), (.int .u32 0), (.int .u32 0), (.int .u32 0), (.int .u32 0), (.int .u32 0), (.int .u32 0)], none, []⟩])
   (.seq
    (.reg [] [
      ⟨(some 11), .cn (.t 2), none, []⟩,
      ⟨(some 12), .qcall n_ref01_Words [(.t 11)] [], none, []⟩,
      ⟨(some 7), .cn (.t 12), none, []⟩])
    (.seq
     (.reg [] [
       ⟨(some 13), .load true 8 (.t 4), none, []⟩,
       ⟨(some 8), .new 3 [(.int .u32 0), (.int .u32 0), (.int .u32 0), (.int .u32 0), (.int .u32 0), (.int .u32 0), (.int .u32 0), (.int .u32 0)], none, []⟩,
       ⟨none, .store 8 (.t 8) (.t 13), none, []⟩])
     (.seq
      (.seq
       (.reg [] [
         ⟨(some 9), .mv (.k (.int .i64 0)), none, []⟩])
       (.block 0 i_ref01_Tables_Step_j0
        (.loop i_ref01_Tables_Step_k0 i_ref01_Tables_Step_b0)))
      (.seq
       (.seq
        (.reg [] [
          ⟨(some 10), .mv (.k (.int .i64 0)), none, []⟩])
        (.block 2 i_ref01_Tables_Step_j2
         (.loop i_ref01_Tables_Step_k1 i_ref01_Tables_Step_b1)))
       (.seq
        (.reg [] [
          ⟨(some 42), .load true 8 (.t 8), none, []⟩,
          ⟨none, .store 8 (.t 6) (.t 42), none, []⟩])
        (.ret i_ref01_Tables_Step_r))))))),
  [.cell 6 true 8], [], false, []⟩

def i_ref01_Words_r : List Bool := [false, false, true, false, false, false, false, false, false, false, false, false, false, false, false, false, false, false, false, false, false, false, false, false, false, false, false, false, false, false, false, false, false, false, false, false, false, false, false, false, false, false, false, false, false, false, false, false, false, false, false, false, false, false, false, false, false, false, false, false, false, false, false, false, false, false, false, false, false, false, false, false, false, false, false, false, false, false, false, false, false, false, false, false, false, false, false, false, false, false, false, false, false, false, false, false]
def i_ref01_Words_j3 : List Bool := [true, false, false, true, true, true, true, false, false, false, false, false, false, false, false, false, false, false, false, false, false, false, false, false, false, false, false, false, false, false, false, false, false, false, false, false, false, false, false, false, false, false, false, false, false, false, false, false, false, false, false, false, false, false, false, false, false, false, false, false, false, false, false, false, false, false, false, false, false, false, false, false, false, false, false, false, false, false, false, false, false, false, false, false, false, false, false, false, false, false, false, false, false, false, false, false]
def i_ref01_Words_k1 : List Bool := [true, false, false, true, true, true, true, false, false, false, false, false, false, false, false, false, false, false, false, false, false, false, false, false, false, false, false, false, false, false, false, false, false, false, false, false, false, false, false, false, false, false, false, false, false, false, false, false, false, false, false, false, false, false, false, false, false, false, false, false, false, false, false, false, false, false, false, false, false, false, false, false, false, false, false, false, false, false, false, false, false, false, false, false, false, false, false, false, false, false, false, false, false, false, false, false]
def i_ref01_Words_j2 : List Bool := [true, false, false, true, true, true, false, false, false, false, false, false, false, false, false, false, false, false, false, false, false, false, false, false, false, false, false, false, false, false, false, false, false, false, false, false, false, false, false, false, false, false, false, false, false, false, false, false, false, false, false, false, false, false, false, false, false, false, false, false, false, false, false, false, false, false, false, false, false, false, false, false, false, false, false, false, false, false, false, false, false, false, false, false, false, false, false, false, false, false, false, false, false, false, false, false]
def i_ref01_Words_j1 : List Bool := [true, false, false, true, true, false, false, false, false, false, false, false, false, false, false, false, false, false, false, false, false, false, false, false, false, false, false, false, false, false, false, false, false, false, false, false, false, false, false, false, false, false, false, false, false, false, false, false, false, false, false, false, false, false, false, false, false, false, false, false, false, false, false, false, false, false, false, false, false, false, false, false, false, false, false, false, false, false, false, false, false, false, false, false, false, false, false, false, false, false, false, false, false, false, false, false]
def i_ref01_Words_k0 : List Bool := [true, false, false, true, true, false, false, false, false, false, false, false, false, false, false, false, false, false, false, false, false, false, false, false, false, false, false, false, false, false, false, false, false, false, false, false, false, false, false, false, false, false, false, false, false, false, false, false, false, false, false, false, false, false, false, false, false, false, false, false, false, false, false, false, false, false, false, false, false, false, false, false, false, false, false, false, false, false, false, false, false, false, false, false, false, false, false, false, false, false, false, false, false, false, false, false]
def i_ref01_Words_j0 : List Bool := [false, false, false, true, false, false, false, false, false, false, false, false, false, false, false, false, false, false, false, false, false, false, false, false, false, false, false, false, false, false, false, false, false, false, false, false, false, false, false, false, false, false, false, false, false, false, false, false, false, false, false, false, false, false, false, false, false, false, false, false, false, false, false, false, false, false, false, false, false, false, false, false, false, false, false, false, false, false, false, false, false, false, false, false, false, false, false, false, false, false, false, false, false, false, false, false]
def i_ref01_Words_j5 : List Bool := [false, false, false, true, false, false, false, true, false, false, false, false, false, false, false, false, false, false, false, false, false, false, false, false, false, false, false, false, false, false, false, false, false, false, false, false, false, false, false, false, false, false, false, false, false, false, false, false, false, false, false, false, false, false, false, false, false, false, false, false, false, false, false, false, false, false, false, false, false, false, false, false, false, false, false, false, false, false, false, false, false, false, false, false, false, false, false, false, false, false, false, false, false, false, false, false]
def i_ref01_Words_k2 : List Bool := [false, false, false, true, false, false, false, true, false, false, false, false, false, false, false, false, false, false, false, false, false, false, false, false, false, false, false, false, false, false, false, false, false, false, false, false, false, false, false, false, false, false, false, false, false, false, false, false, false, false, false, false, false, false, false, false, false, false, false, false, false, false, false, false, false, false, false, false, false, false, false, false, false, false, false, false, false, false, false, false, false, false, false, false, false, false, false, false, false, false, false, false, false, false, false, false]
def i_ref01_Words_j4 : List Bool := [false, false, false, true, false, false, false, false, false, false, false, false, false, false, false, false, false, false, false, false, false, false, false, false, false, false, false, false, false, false, false, false, false, false, false, false, false, false, false, false, false, false, false, false, false, false, false, false, false, false, false, false, false, false, false, false, false, false, false, false, false, false, false, false, false, false, false, false, false, false, false, false, false, false, false, false, false, false, false, false, false, false, false, false, false, false, false, false, false, false, false, false, false, false, false, false]
abbrev s_ref01_Words_R (t2 : AV) (h : Heap) : St := ⟨[.undef, .undef, t2, .undef, .undef, .undef, .undef, .undef, .undef, .undef, .undef, .undef, .undef, .undef, .undef, .undef, .undef, .undef, .undef, .undef, .undef, .undef, .undef, .undef, .undef, .undef, .undef, .undef, .undef, .undef, .undef, .undef, .undef, .undef, .undef, .undef, .undef, .undef, .undef, .undef, .undef, .undef, .undef, .undef, .undef, .undef, .undef, .undef, .undef, .undef, .undef, .undef, .undef, .undef, .undef, .undef, .undef, .undef, .undef, .undef, .undef, .undef, .undef, .undef, .undef, .undef, .undef, .undef, .undef, .undef, .undef, .undef, .undef, .undef, .undef, .undef, .undef, .undef, .undef, .undef, .undef, .undef, .undef, .undef, .undef, .undef, .undef, .undef, .undef, .undef, .undef, .undef, .undef, .undef, .undef, .undef], h⟩
abbrev s_ref01_Words_K1 (t0 t3 t4 t5 t6 : AV) (h : Heap) : St := ⟨[t0, .undef, .undef, t3, t4, t5, t6, .undef, .undef, .undef, .undef, .undef, .undef, .undef, .undef, .undef, .undef, .undef, .undef, .undef, .undef, .undef, .undef, .undef, .undef, .undef, .undef, .undef, .undef, .undef, .undef, .undef, .undef, .undef, .undef, .undef, .undef, .undef, .undef, .undef, .undef, .undef, .undef, .undef, .undef, .undef, .undef, .undef, .undef, .undef, .undef, .undef, .undef, .undef, .undef, .undef, .undef, .undef, .undef, .undef, .undef, .undef, .undef, .undef, .undef, .undef, .undef, .undef, .undef, .undef, .undef, .undef, .undef, .undef, .undef, .undef, .undef, .undef, .undef, .undef, .undef, .undef, .undef, .undef, .undef, .undef, .undef, .undef, .undef, .undef, .undef, .undef, .undef, .undef, .undef, .undef], h⟩
def i_ref01_Words_b1 : IR :=
  (.seq
   (.seq
    (.reg [] [
      ⟨(some 14), .mv (.t 6), none, []⟩,
      ⟨(some 15), .bin .plain .lss (.t 14) (.k (.int .i64 4)), none, []⟩])
    (.cond (.t 15)
     .skip
     (.exit 2 i_ref01_Words_j2)))
   (.seq
    (.block 3 i_ref01_Words_j3
     (.reg [] [
       ⟨(some 18), .mv (.t 5), none, []⟩,
       ⟨(some 19), .bin .plain .mul (.k (.int .u32 256)) (.t 18), none, []⟩,
       ⟨(some 20), .cn (.t 0), none, []⟩,
       ⟨(some 21), .mv (.t 4), none, []⟩,
       ⟨(some 22), .bin .plain .mul (.k (.int .i64 4)) (.t 21), none, []⟩,
       ⟨(some 23), .mv (.t 6), none, []⟩,
       ⟨(some 24), .bin .plain .add (.t 22) (.t 23), none, []⟩,
       ⟨(some 25), .ia 1 (.t 20) (.t 24), none, []⟩,
       ⟨(some 26), .load false 1 (.t 25), none, []⟩,
       ⟨(some 27), .conv .u32 (.t 26), none, []⟩,
       ⟨(some 28), .bin .plain .add (.t 19) (.t 27), none, []⟩,
       ⟨(some 5), .mv (.t 28), none, []⟩]))
    (.reg [] [
      ⟨(some 16), .mv (.t 6), none, []⟩,
      ⟨(some 17), .bin .plain .add (.t 16) (.k (.int .i64 1)), none, []⟩,
      ⟨(some 6), .mv (.t 17), none, []⟩])))

abbrev s_ref01_Words_J2 (t0 t3 t4 t5 : AV) (h : Heap) : St := ⟨[t0, .undef, .undef, t3, t4, t5, .undef, .undef, .undef, .undef, .undef, .undef, .undef, .undef, .undef, .undef, .undef, .undef, .undef, .undef, .undef, .undef, .undef, .undef, .undef, .undef, .undef, .undef, .undef, .undef, .undef, .undef, .undef, .undef, .undef, .undef, .undef, .undef, .undef, .undef, .undef, .undef, .undef, .undef, .undef, .undef, .undef, .undef, .undef, .undef, .undef, .undef, .undef, .undef, .undef, .undef, .undef, .undef, .undef, .undef, .undef, .undef, .undef, .undef, .undef, .undef, .undef, .undef, .undef, .undef, .undef, .undef, .undef, .undef, .undef, .undef, .undef, .undef, .undef, .undef, .undef, .undef, .undef, .undef, .undef, .undef, .undef, .undef, .undef, .undef, .undef, .undef, .undef, .undef, .undef, .undef], h⟩
abbrev s_ref01_Words_J1 (t0 t3 t4 : AV) (h : Heap) : St := ⟨[t0, .undef, .undef, t3, t4, .undef, .undef, .undef, .undef, .undef, .undef, .undef, .undef, .undef, .undef, .undef, .undef, .undef, .undef, .undef, .undef, .undef, .undef, .undef, .undef, .undef, .undef, .undef, .undef, .undef, .undef, .undef, .undef, .undef, .undef, .undef, .undef, .undef, .undef, .undef, .undef, .undef, .undef, .undef, .undef, .undef, .undef, .undef, .undef, .undef, .undef, .undef, .undef, .undef, .undef, .undef, .undef, .undef, .undef, .undef, .undef, .undef, .undef, .undef, .undef, .undef, .undef, .undef, .undef, .undef, .undef, .undef, .undef, .undef, .undef, .undef, .undef, .undef, .undef, .undef, .undef, .undef, .undef, .undef, .undef, .undef, .undef, .undef, .undef, .undef, .undef, .undef, .undef, .undef, .undef, .undef], h⟩
abbrev s_ref01_Words_K0 (t0 t3 t4 : AV) (h : Heap) : St := ⟨[t0, .undef, .undef, t3, t4, .undef, .undef, .undef, .undef, .undef, .undef, .undef, .undef, .undef, .undef, .undef, .undef, .undef, .undef, .undef, .undef, .undef, .undef, .undef, .undef, .undef, .undef, .undef, .undef, .undef, .undef, .undef, .undef, .undef, .undef, .undef, .undef, .undef, .undef, .undef, .undef, .undef, .undef, .undef, .undef, .undef, .undef, .undef, .undef, .undef, .undef, .undef, .undef, .undef, .undef, .undef, .undef, .undef, .undef, .undef, .undef, .undef, .undef, .undef, .undef, .undef, .undef, .undef, .undef, .undef, .undef, .undef, .undef, .undef, .undef, .undef, .undef, .undef, .undef, .undef, .undef, .undef, .undef, .undef, .undef, .undef, .undef, .undef, .undef, .undef, .undef, .undef, .undef, .undef, .undef, .undef], h⟩
def i_ref01_Words_b0 : IR :=
  (.seq
   (.seq
    (.reg [] [
      ⟨(some 10), .mv (.t 4), none, []⟩,
      ⟨(some 11), .bin .plain .lss (.t 10) (.k (.int .i64 16)), none, []⟩])
    (.cond (.t 11)
     .skip
     (.exit 0 i_ref01_Words_j0)))
   (.seq
    (.block 1 i_ref01_Words_j1
     (.seq
      (.reg [] [
        ⟨(some 5), .mv (.k (.int .u32 0)), none, []⟩])
      (.seq
       (.seq
        (.reg [] [
          ⟨(some 6), .mv (.k (.int .i64 0)), none, []⟩])
        (.block 2 i_ref01_Words_j2
         (.loop i_ref01_Words_k1 i_ref01_Words_b1)))
       (.reg [] [
         ⟨(some 29), .mv (.t 3), none, []⟩,
         ⟨(some 30), .mv (.t 5), none, []⟩,
         ⟨(some 31), .litd 1 1 [(.int .u32 0)] [(0, (.t 30))], none, []⟩,
         ⟨(some 32), .app 0 ty_uint32 1 4 (.t 29) (.t 31), none, []⟩,
         ⟨(some 3), .mv (.t 32), none, []⟩]))))
    (.reg [] [
      ⟨(some 12), .mv (.t 4), none, []⟩,
      ⟨(some 13), .bin .plain .add (.t 12) (.k (.int .i64 1)), none, []⟩,
      ⟨(some 4), .mv (.t 13), none, []⟩])))

abbrev s_ref01_Words_J0 (t3 : AV) (h : Heap) : St := ⟨[.undef, .undef, .undef, t3, .undef, .undef, .undef, .undef, .undef, .undef, .undef, .undef, .undef, .undef, .undef, .undef, .undef, .undef, .undef, .undef, .undef, .undef, .undef, .undef, .undef, .undef, .undef, .undef, .undef, .undef, .undef, .undef, .undef, .undef, .undef, .undef, .undef, .undef, .undef, .undef, .undef, .undef, .undef, .undef, .undef, .undef, .undef, .undef, .undef, .undef, .undef, .undef, .undef, .undef, .undef, .undef, .undef, .undef, .undef, .undef, .undef, .undef, .undef, .undef, .undef, .undef, .undef, .undef, .undef, .undef, .undef, .undef, .undef, .undef, .undef, .undef, .undef, .undef, .undef, .undef, .undef, .undef, .undef, .undef, .undef, .undef, .undef, .undef, .undef, .undef, .undef, .undef, .undef, .undef, .undef, .undef], h⟩
abbrev s_ref01_Words_K2 (t3 t7 : AV) (h : Heap) : St := ⟨[.undef, .undef, .undef, t3, .undef, .undef, .undef, t7, .undef, .undef, .undef, .undef, .undef, .undef, .undef, .undef, .undef, .undef, .undef, .undef, .undef, .undef, .undef, .undef, .undef, .undef, .undef, .undef, .undef, .undef, .undef, .undef, .undef, .undef, .undef, .undef, .undef, .undef, .undef, .undef, .undef, .undef, .undef, .undef, .undef, .undef, .undef, .undef, .undef, .undef, .undef, .undef, .undef, .undef, .undef, .undef, .undef, .undef, .undef, .undef, .undef, .undef, .undef, .undef, .undef, .undef, .undef, .undef, .undef, .undef, .undef, .undef, .undef, .undef, .undef, .undef, .undef, .undef, .undef, .undef, .undef, .undef, .undef, .undef, .undef, .undef, .undef, .undef, .undef, .undef, .undef, .undef, .undef, .undef, .undef, .undef], h⟩
def i_ref01_Words_b2 : IR :=
  (.seq
   (.seq
    (.reg [] [
      ⟨(some 33), .mv (.t 7), none, []⟩,
      ⟨(some 34), .bin .plain .lss (.t 33) (.k (.int .i64 64)), none, []⟩])
    (.cond (.t 34)
     .skip
     (.exit 4 i_ref01_Words_j4)))
   (.seq
    (.block 5 i_ref01_Words_j5
     (.seq
      (.reg [] [
        ⟨(some 37), .cn (.t 3), none, []⟩,
        ⟨(some 38), .mv (.t 7), none, []⟩,
        ⟨(some 39), .bin .plain .sub (.t 38) (.k (.int .i64 15)), none, []⟩,
        ⟨(some 40), .ia 1 (.t 37) (.t 39), none, []⟩,
        ⟨(some 41), .load false 1 (.t 40), none, []⟩,
        ⟨(some 42), .qcall n_ref01_turn [(.t 41), (.k (.int .i64 7))] [], none, []⟩,
        ⟨(some 43), .cn (.t 3), none, []⟩,
        ⟨(some 44), .mv (.t 7), none, []⟩,
        ⟨(some 45), .bin .plain .sub (.t 44) (.k (.int .i64 15)), none, []⟩,
        ⟨(some 46), .ia 1 (.t 43) (.t 45), none, []⟩,
        ⟨(some 47), .load false 1 (.t 46), none, []⟩,
        ⟨(some 48), .qcall n_ref01_turn [(.t 47), (.k (.int .i64 18))] [], none, []⟩,
        ⟨(some 49), .bin .plain .xor (.t 42) (.t 48), none, []⟩,
        ⟨(some 50), .cn (.t 3), none, []⟩,
        ⟨(some 51), .mv (.t 7), none, []⟩,
        ⟨(some 52), .bin .plain .sub (.t 51) (.k (.int .i64 15)), none, []⟩,
        ⟨(some 53), .ia 1 (.t 50) (.t 52), none, []⟩,
        ⟨(some 54), .load false 1 (.t 53), none, []⟩,
        ⟨(some 55), .bin .plain .shr (.t 54) (.k (.int .u64 3)), none, []⟩,
        ⟨(some 56), .bin .plain .xor (.t 49) (.t 55), none, []⟩,
        ⟨(some 8), .mv (.t 56), none, []⟩])
      (.seq
       (.reg [] [
         ⟨(some 57), .cn (.t 3), none, []⟩,
         ⟨(some 58), .mv (.t 7), none, []⟩,
         ⟨(some 59), .bin .plain .sub (.t 58) (.k (.int .i64 2)), none, []⟩,
         ⟨(some 60), .ia 1 (.t 57) (.t 59), none, []⟩,
         ⟨(some 61), .load false 1 (.t 60), none, []⟩,
         ⟨(some 62), .qcall n_ref01_turn [(.t 61), (.k (.int .i64 17))] [], none, []⟩,
         ⟨(some 63), .cn (.t 3), none, []⟩,
         ⟨(some 64), .mv (.t 7), none, []⟩,
         ⟨(some 65), .bin .plain .sub (.t 64) (.k (.int .i64 2)), none, []⟩,
         ⟨(some 66), .ia 1 (.t 63) (.t 65), none, []⟩,
         ⟨(some 67), .load false 1 (.t 66), none, []⟩,
         ⟨(some 68), .qcall n_ref01_turn [(.t 67), (.k (.int .i64 19))] [], none, []⟩,
         ⟨(some 69), .bin .plain .xor (.t 62) (.t 68), none, []⟩,
         ⟨(some 70), .cn (.t 3), none, []⟩,
         ⟨(some 71), .mv (.t 7), none, []⟩,
         ⟨(some 72), .bin .plain .sub (.t 71) (.k (.int .i64 2)), none, []⟩,
         ⟨(some 73), .ia 1 (.t 70) (.t 72), none, []⟩,
         ⟨(some 74), .load false 1 (.t 73), none, []⟩,
         ⟨(some 75), .bin .plain .shr (.t 74) (.k (.int .u64 10)), none, []⟩,
         ⟨(some 76), .bin .plain .xor (.t 69) (.t 75), none, []⟩,
         ⟨(some 9), .mv (.t 76), none, []⟩])
       (.reg [] [
         ⟨(some 77), .mv (.t 3), none, []⟩,
         ⟨(some 78), .cn (.t 3), none, []⟩,
         ⟨(some 79), .mv (.t 7), none, []⟩,
         ⟨(some 80), .bin .plain .sub (.t 79) (.k (.int .i64 16)), none, []⟩,
         ⟨(some 81), .ia 1 (.t 78) (.t 80), none, []⟩,
         ⟨(some 82), .load false 1 (.t 81), none, []⟩,
         ⟨(some 83), .mv (.t 8), none, []⟩,
         ⟨(some 84), .bin .plain .add (.t 82) (.t 83), none, []⟩,
         ⟨(some 85), .cn (.t 3), none, []⟩,
         ⟨(some 86), .mv (.t 7), none, []⟩,
         ⟨(some 87), .bin .plain .sub (.t 86) (.k (.int .i64 7)), none, []⟩,
         ⟨(some 88), .ia 1 (.t 85) (.t 87), none, []⟩,
         ⟨(some 89), .load false 1 (.t 88), none, []⟩,
         ⟨(some 90), .bin .plain .add (.t 84) (.t 89), none, []⟩,
         ⟨(some 91), .mv (.t 9), none, []⟩,
         ⟨(some 92), .bin .plain .add (.t 90) (.t 91), none, []⟩,
         ⟨(some 93), .litd 1 1 [(.int .u32 0)] [(0, (.t 92))], none, []⟩,
         ⟨(some 94), .app 0 ty_uint32 1 4 (.t 77) (.t 93), none, []⟩,
         ⟨(some 3), .mv (.t 94), none, []⟩]))))
    (.reg [] [
      ⟨(some 35), .mv (.t 7), none, []⟩,
      ⟨(some 36), .bin .plain .add (.t 35) (.k (.int .i64 1)), none, []⟩,
      ⟨(some 7), .mv (.t 36), none, []⟩])))

abbrev s_ref01_Words_J4 (t3 : AV) (h : Heap) : St := ⟨[.undef, .undef, .undef, t3, .undef, .undef, .undef, .undef, .undef, .undef, .undef, .undef, .undef, .undef, .undef, .undef, .undef, .undef, .undef, .undef, .undef, .undef, .undef, .undef, .undef, .undef, .undef, .undef, .undef, .undef, .undef, .undef, .undef, .undef, .undef, .undef, .undef, .undef, .undef, .undef, .undef, .undef, .undef, .undef, .undef, .undef, .undef, .undef, .undef, .undef, .undef, .undef, .undef, .undef, .undef, .undef, .undef, .undef, .undef, .undef, .undef, .undef, .undef, .undef, .undef, .undef, .undef, .undef, .undef, .undef, .undef, .undef, .undef, .undef, .undef, .undef, .undef, .undef, .undef, .undef, .undef, .undef, .undef, .undef, .undef, .undef, .undef, .undef, .undef, .undef, .undef, .undef, .undef, .undef, .undef, .undef], h⟩
/-- heartwood/heartwoodref01.Words -/
def i_ref01_Words : Ev.Fn := ⟨1, 96, 1,
  (.seq
   (.reg [] [
     ⟨(some 2), .cn (.k (.slice none 0 0)), none, []⟩])
   (.seq
    (.reg [] [
      ⟨(some 3), .mv (.k (.slice none 0 0)), none, []⟩])
    (.seq
     (.seq
      (.reg [] [
        ⟨(some 4), .mv (.k (.int .i64 0)), none, []⟩])
      (.block 0 i_ref01_Words_j0
       (.loop i_ref01_Words_k0 i_ref01_Words_b0)))
     (.seq
      (.seq
       (.reg [] [
         ⟨(some 7), .mv (.k (.int .i64 16)), none, []⟩])
       (.block 4 i_ref01_Words_j4
        (.loop i_ref01_Words_k2 i_ref01_Words_b2)))
      (.seq
       (.reg [] [
         ⟨(some 95), .cn (.t 3), none, [3]⟩,
         ⟨(some 2), .cn (.t 95), none, [95]⟩])
       (.ret i_ref01_Words_r)))))),
  [.tmp 2], [], false, []⟩

def i_ref01_turn_r : List Bool := [false, false, false, false, true, false, false, false, false, false, false, false, false]
/-- heartwood/heartwoodref01.turn -/
def i_ref01_turn : Ev.Fn := ⟨2, 13, 0,
  (.seq
   (.reg [] [
     ⟨(some 4), .mv (.k (.int .u32 0)), none, []⟩])
   (.seq
    (.reg [] [
      ⟨(some 5), .mv (.t 0), none, []⟩,
      ⟨(some 6), .mv (.t 1), none, []⟩,
      ⟨(some 7), .bin .plain .shr (.t 5) (.t 6), none, []⟩,
      ⟨(some 8), .mv (.t 0), none, []⟩,
      ⟨(some 9), .mv (.t 1), none, []⟩,
      ⟨(some 10), .bin .plain .sub (.k (.int .i64 32)) (.t 9), none, []⟩,
      ⟨(some 11), .bin .plain .shl (.t 8) (.t 10), none, []⟩,
      ⟨(some 12), .bin .plain .or (.t 7) (.t 11), none, []⟩,
      ⟨(some 4), .mv (.t 12), none, []⟩])
    (.ret i_ref01_turn_r))),
  [.tmp 4], [], false, []⟩

def i_ref01_Round_r : List Bool := [false, false, false, false, false, false, true, false, false, false, false, false, false, false, false, false, false, false, false, false, false, false, false, false, false, false, false, false, false, false, false, false, false, false, false, false, false, false, false, false, false, false, false, false, false, false, false, false, false, false, false, false, false, false, false, false, false, false, false, false, false, false, false, false, false, false, false, false, false, false, false, false, false, false, false, false, false, false, false, false, false, false, false]
/-- heartwood/heartwoodref01.Round -/
def i_ref01_Round : Ev.Fn := ⟨3, 83, 2,
  (.seq
   (.reg [] [
     ⟨(some 3), .box 0 8 (.t 0), none, []⟩,
     ⟨(some 6), .new 1 [(.int .u32 0), (.int .u32 0), (.int .u32 0), (.int .u32 0), (.int .u32 0), (.int .u32 0), (.int .u32 0), (.int .u32 0)], none, []⟩])
   (.seq
    (.reg [] [
      ⟨(some 11), .iap 8 1 (.t 3) (.k (.int .i64 0)), none, []⟩,
      ⟨(some 12), .load false 1 (.t 11), none, []⟩,
      ⟨(some 7), .mv (.t 12), none, []⟩])
    (.seq
     (.reg [] [
       ⟨(some 13), .iap 8 1 (.t 3) (.k (.int .i64 4)), none, []⟩,
       ⟨(some 14), .load false 1 (.t 13), none, []⟩,
       ⟨(some 8), .mv (.t 14), none, []⟩])
     (.seq
      (.reg [] [
        ⟨(some 15), .iap 8 1 (.t 3) (.k (.int .i64 7)), none, []⟩,
        ⟨(some 16), .load false 1 (.t 15), none, []⟩,
        ⟨(some 17), .mv (.t 8), none, []⟩,
        ⟨(some 18), .qcall n_ref01_turn [(.t 17), (.k (.int .i64 6))] [], none, []⟩,
        ⟨(some 19), .mv (.t 8), none, []⟩,
        ⟨(some 20), .qcall n_ref01_turn [(.t 19), (.k (.int .i64 11))] [], none, []⟩,
        ⟨(some 21), .bin .plain .xor (.t 18) (.t 20), none, []⟩,
        ⟨(some 22), .mv (.t 8), none, []⟩,
        ⟨(some 23), .qcall n_ref01_turn [(.t 22), (.k (.int .i64 25))] [], none, []⟩,
        ⟨(some 24), .bin .plain .xor (.t 21) (.t 23), none, []⟩,
        ⟨(some 25), .bin .plain .add (.t 16) (.t 24), none, []⟩,
        ⟨(some 26), .mv (.t 8), none, []⟩,
        ⟨(some 27), .iap 8 1 (.t 3) (.k (.int .i64 5)), none, []⟩,
        ⟨(some 28), .load false 1 (.t 27), none, []⟩,
        ⟨(some 29), .bin .plain .and (.t 26) (.t 28), none, []⟩,
        ⟨(some 30), .mv (.t 8), none, []⟩,
        ⟨(some 31), .un .xor (.t 30), none, []⟩,
        ⟨(some 32), .iap 8 1 (.t 3) (.k (.int .i64 6)), none, []⟩,
        ⟨(some 33), .load false 1 (.t 32), none, []⟩,
        ⟨(some 34), .bin .plain .and (.t 31) (.t 33), none, []⟩,
        ⟨(some 35), .bin .plain .xor (.t 29) (.t 34), none, []⟩,
        ⟨(some 36), .bin .plain .add (.t 25) (.t 35), none, []⟩,
        ⟨(some 37), .mv (.t 1), none, []⟩,
        ⟨(some 38), .bin .plain .add (.t 36) (.t 37), none, []⟩,
        ⟨(some 39), .mv (.t 2), none, []⟩,
        ⟨(some 40), .bin .plain .add (.t 38) (.t 39), none, []⟩,
        ⟨(some 9), .mv (.t 40), none, []⟩])
      (.seq
       (.reg [] [
         ⟨(some 41), .mv (.t 7), none, []⟩,
         ⟨(some 42), .qcall n_ref01_turn [(.t 41), (.k (.int .i64 2))] [], none, []⟩,
         ⟨(some 43), .mv (.t 7), none, []⟩,
         ⟨(some 44), .qcall n_ref01_turn [(.t 43), (.k (.int .i64 13))] [], none, []⟩,
         ⟨(some 45), .bin .plain .xor (.t 42) (.t 44), none, []⟩,
         ⟨(some 46), .mv (.t 7), none, []⟩,
         ⟨(some 47), .qcall n_ref01_turn [(.t 46), (.k (.int .i64 22))] [], none, []⟩,
         ⟨(some 48), .bin .plain .xor (.t 45) (.t 47), none, []⟩,
         ⟨(some 49), .mv (.t 7), none, []⟩,
         ⟨(some 50), .iap 8 1 (.t 3) (.k (.int .i64 1)), none, []⟩,
         ⟨(some 51), .load false 1 (.t 50), none, []⟩,
         ⟨(some 52), .bin .plain .and (.t 49) (.t 51), none, []⟩,
         ⟨(some 53), .mv (.t 7), none, []⟩,
         ⟨(some 54), .iap 8 1 (.t 3) (.k (.int .i64 2)), none, []⟩,
         ⟨(some 55), .load false 1 (.t 54), none, []⟩,
         ⟨(some 56), .bin .plain .and (.t 53) (.t 55), none, []⟩,
         ⟨(some 57), .bin .plain .xor (.t 52) (.t 56), none, []⟩,
         ⟨(some 58), .iap 8 1 (.t 3) (.k (.int .i64 1)), none, []⟩,
         ⟨(some 59), .load false 1 (.t 58), none, []⟩,
         ⟨(some 60), .iap 8 1 (.t 3) (.k (.int .i64 2)), none, []⟩,
         ⟨(some 61), .load false 1 (.t 60), none, []⟩,
         ⟨(some 62), .bin .plain .and (.t 59) (.t 61), none, []⟩,
         ⟨(some 63), .bin .plain .xor (.t 57) (.t 62), none, []⟩,
         ⟨(some 64), .bin .plain .add (.t 48) (.t 63), none, []⟩,
         ⟨(some 10), .mv (.t 64), none, []⟩])
       (.seq
        (.reg [] [
          ⟨(some 65), .mv (.t 9), none, []⟩,
          ⟨(some 66), .mv (.t 10), none, []⟩,
          ⟨(some 67), .bin .plain .add (.t 65) (.t 66), none, []⟩,
          ⟨(some 68), .mv (.t 7), none, []⟩,
          ⟨(some 69), .iap 8 1 (.t 3) (.k (.int .i64 1)), none, []⟩,
          ⟨(some 70), .load false 1 (.t 69), none, []⟩,
          ⟨(some 71), .iap 8 1 (.t 3) (.k (.int .i64 2)), none, []⟩,
          ⟨(some 72), .load false 1 (.t 71), none, []⟩,
          ⟨(some 73), .iap 8 1 (.t 3) (.k (.int .i64 3)), none, []⟩,
          ⟨(some 74), .load false 1 (.t 73), none, []⟩,
          ⟨(some 75), .mv (.t 9), none, []⟩,
          ⟨(some 76), .bin .plain .add (.t 74) (.t 75), none, []⟩,
          ⟨(some 77), .mv (.t 8), none, []⟩,
          ⟨(some 78), .iap 8 1 (.t 3) (.k (.int .i64 5)), none, []⟩,
          ⟨(some 79), .load false 1 (.t 78), none, []⟩,
          ⟨(some 80), .iap 8 1 (.t 3) (.k (.int .i64 6)), none, []⟩,
          ⟨(some 81), .load false 1 (.t 80), none, []⟩,
          ⟨(some 82), .build [(.int .u32 0), (.int .u32 0), (.int .u32 0), (.int .u32 0), (.int .u32 0), (.int .u32 0), (.int .u32 0), (.int .u32 0)] [(0, 1, (.t 67)), (1, 1, (.t 68)), (2, 1, (.t 70)), (3, 1, (.t 72)), (4, 1, (.t 76)), (5, 1, (.t 77)), (6, 1, (.t 79)), (7, 1, (.t 81))], none, []⟩,
          ⟨none, .store 8 (.t 6) (.t 82), none, []⟩])
        (.ret i_ref01_Round_r))))))),
  [.cell 6 true 8], [], false, []⟩

def i_ref03_Value_r : List Bool := [false, false, true, false, false, false]
/-- heartwood/heartwoodref03.Value -/
def i_ref03_Value : Ev.Fn := ⟨1, 6, 1,
  (.seq
   (.reg [] [
     ⟨(some 2), .cn (.k (.slice none 0 0)), none, []⟩])
   (.seq
    (.reg [] [
      ⟨(some 3), .lit 0 ty_uint8 1 1 [(.int .u8 0)] [(0, (.k (.int .u8 0)))], none, []⟩,
      ⟨(some 4), .cn (.t 0), none, []⟩,
      ⟨(some 5), .app 0 ty_uint8 1 1 (.t 3) (.t 4), none, []⟩,
      ⟨(some 2), .cn (.t 5), none, [5]⟩])
    (.ret i_ref03_Value_r))),
  [.tmp 2], [], false, []⟩

def i_ref03_Pair_r : List Bool := [false, false, false, false, true, false, false, false, false, false, false, false, false]
/-- heartwood/heartwoodref03.Pair -/
def i_ref03_Pair : Ev.Fn := ⟨2, 13, 1,
  (.seq
   (.reg [] [
     ⟨(some 4), .cn (.k (.slice none 0 0)), none, []⟩])
   (.seq
    (.reg [] [
      ⟨(some 6), .lit 0 ty_uint8 1 1 [(.int .u8 0)] [(0, (.k (.int .u8 1)))], none, []⟩,
      ⟨(some 7), .cn (.t 0), none, []⟩,
      ⟨(some 8), .qcall n_ref02_Bytes [(.t 7)] [], none, []⟩,
      ⟨(some 9), .app 0 ty_uint8 1 1 (.t 6) (.t 8), none, []⟩,
      ⟨(some 5), .mv (.t 9), none, []⟩])
    (.seq
     (.reg [] [
       ⟨(some 10), .mv (.t 5), none, []⟩,
       ⟨(some 11), .cn (.t 1), none, []⟩,
       ⟨(some 12), .app 0 ty_uint8 1 1 (.t 10) (.t 11), none, []⟩,
       ⟨(some 4), .cn (.t 12), none, [12]⟩])
     (.ret i_ref03_Pair_r)))),
  [.tmp 4], [], false, []⟩

def i_ref02_Bytes_r : List Bool := [false, false, true, false, false, false, false, false, false]
/-- heartwood/heartwoodref02.Bytes -/
def i_ref02_Bytes : Ev.Fn := ⟨1, 9, 2,
  (.seq
   (.reg [] [
     ⟨(some 2), .cn (.k (.slice none 0 0)), none, []⟩])
   (.seq
    (.reg [] [
      ⟨(some 3), .cn (.t 0), none, []⟩,
      ⟨(some 4), .len false (.t 3), none, []⟩,
      ⟨(some 5), .conv .u64 (.t 4), none, []⟩,
      ⟨(some 6), .qcall n_ref02_Number [(.t 5)] [0], none, []⟩,
      ⟨(some 7), .cn (.t 0), none, []⟩,
      ⟨(some 8), .app 1 ty_uint8 1 1 (.t 6) (.t 7), none, []⟩,
      ⟨(some 2), .cn (.t 8), none, [8]⟩])
    (.ret i_ref02_Bytes_r))),
  [.tmp 2], [], false, []⟩

def i_ref02_Number_r : List Bool := [false, false, true, false, false, false, false, false, false, false, false, false, false, false, false, false, false, false, false, false, false, false, false, false, false, false]
def i_ref02_Number_j1 : List Bool := [true, false, false, true, false, false, false, false, false, false, false, false, false, false, false, false, false, false, false, false, false, false, false, false, false, false]
def i_ref02_Number_k0 : List Bool := [true, false, false, true, false, false, false, false, false, false, false, false, false, false, false, false, false, false, false, false, false, false, false, false, false, false]
def i_ref02_Number_j0 : List Bool := [false, false, false, true, false, false, false, false, false, false, false, false, false, false, false, false, false, false, false, false, false, false, false, false, false, false]
abbrev s_ref02_Number_R (t2 : AV) (h : Heap) : St := ⟨[.undef, .undef, t2, .undef, .undef, .undef, .undef, .undef, .undef, .undef, .undef, .undef, .undef, .undef, .undef, .undef, .undef, .undef, .undef, .undef, .undef, .undef, .undef, .undef, .undef, .undef], h⟩
abbrev s_ref02_Number_K0 (t0 t3 : AV) (h : Heap) : St := ⟨[t0, .undef, .undef, t3, .undef, .undef, .undef, .undef, .undef, .undef, .undef, .undef, .undef, .undef, .undef, .undef, .undef, .undef, .undef, .undef, .undef, .undef, .undef, .undef, .undef, .undef], h⟩
def i_ref02_Number_b0 : IR :=
  (.seq
   (.seq
    (.reg [] [
      ⟨(some 9), .mv (.t 0), none, []⟩,
      ⟨(some 10), .bin .plain .gtr (.t 9) (.k (.int .u64 0)), none, []⟩])
    (.cond (.t 10)
     .skip
     (.exit 0 i_ref02_Number_j0)))
   (.block 1 i_ref02_Number_j1
    (.seq
     (.reg [] [
       ⟨(some 11), .mv (.t 0), none, []⟩,
       ⟨(some 12), .bin .plain .rem (.t 11) (.k (.int .u64 256)), none, []⟩,
       ⟨(some 13), .conv .u8 (.t 12), none, []⟩,
       ⟨(some 14), .lit 1 ty_uint8 1 1 [(.int .u8 0)] [(0, (.t 13))], none, []⟩,
       ⟨(some 15), .cn (.t 3), none, []⟩,
       ⟨(some 16), .app 1 ty_uint8 1 1 (.t 14) (.t 15), none, []⟩,
       ⟨(some 3), .cn (.t 16), none, [16]⟩])
     (.reg [] [
       ⟨(some 17), .mv (.t 0), none, []⟩,
       ⟨(some 18), .bin .plain .quo (.t 17) (.k (.int .u64 256)), none, []⟩,
       ⟨(some 0), .mv (.t 18), none, []⟩]))))

abbrev s_ref02_Number_J0 (t3 : AV) (h : Heap) : St := ⟨[.undef, .undef, .undef, t3, .undef, .undef, .undef, .undef, .undef, .undef, .undef, .undef, .undef, .undef, .undef, .undef, .undef, .undef, .undef, .undef, .undef, .undef, .undef, .undef, .undef, .undef], h⟩
/-- heartwood/heartwoodref02.Number -/
def i_ref02_Number : Ev.Fn := ⟨1, 26, 2,
  (.seq
   (.reg [] [
     ⟨(some 2), .mv (.k (.slice none 0 0)), none, []⟩])
   (.seq
    (.seq
     (.reg [] [
       ⟨(some 4), .mv (.t 0), none, []⟩,
       ⟨(some 5), .bin .plain .lss (.t 4) (.k (.int .u64 248)), none, []⟩])
     (.cond (.t 5)
      (.seq
       (.reg [] [
         ⟨(some 6), .mv (.t 0), none, []⟩,
         ⟨(some 7), .conv .u8 (.t 6), none, []⟩,
         ⟨(some 8), .lit 0 ty_uint8 1 1 [(.int .u8 0)] [(0, (.t 7))], none, []⟩,
         ⟨(some 2), .mv (.t 8), none, []⟩])
       (.ret i_ref02_Number_r))
      .skip))
    (.seq
     (.reg [] [
       ⟨(some 3), .cn (.k (.slice none 0 0)), none, []⟩])
     (.seq
      (.block 0 i_ref02_Number_j0
       (.loop i_ref02_Number_k0 i_ref02_Number_b0))
      (.seq
       (.reg [] [
         ⟨(some 19), .cn (.t 3), none, []⟩,
         ⟨(some 20), .len false (.t 19), none, []⟩,
         ⟨(some 21), .bin .plain .add (.k (.int .i64 247)) (.t 20), none, []⟩,
         ⟨(some 22), .conv .u8 (.t 21), none, []⟩,
         ⟨(some 23), .lit 0 ty_uint8 1 1 [(.int .u8 0)] [(0, (.t 22))], none, []⟩,
         ⟨(some 24), .cn (.t 3), none, []⟩,
         ⟨(some 25), .app 0 ty_uint8 1 1 (.t 23) (.t 24), none, []⟩,
         ⟨(some 2), .mv (.t 25), none, []⟩])
       (.ret i_ref02_Number_r)))))),
  [.tmp 2], [true], false, []⟩

def i_ref03_Node_r : List Bool := [false, false, false, false, false, false, true, false, false, false, false, false, false, false, false, false, false]
/-- heartwood/heartwoodref03.Node -/
def i_ref03_Node : Ev.Fn := ⟨3, 17, 1,
  (.seq
   (.reg [] [
     ⟨(some 6), .cn (.k (.slice none 0 0)), none, []⟩])
   (.seq
    (.reg [] [
      ⟨(some 8), .lit 0 ty_uint8 1 1 [(.int .u8 0)] [(0, (.k (.int .u8 2)))], none, []⟩,
      ⟨(some 9), .cn (.t 0), none, []⟩,
      ⟨(some 10), .app 0 ty_uint8 1 1 (.t 8) (.t 9), none, []⟩,
      ⟨(some 7), .mv (.t 10), none, []⟩])
    (.seq
     (.reg [] [
       ⟨(some 11), .mv (.t 7), none, []⟩,
       ⟨(some 12), .cn (.t 1), none, []⟩,
       ⟨(some 13), .app 0 ty_uint8 1 1 (.t 11) (.t 12), none, []⟩,
       ⟨(some 7), .mv (.t 13), none, []⟩])
     (.seq
      (.reg [] [
        ⟨(some 14), .mv (.t 7), none, []⟩,
        ⟨(some 15), .cn (.t 2), none, []⟩,
        ⟨(some 16), .app 0 ty_uint8 1 1 (.t 14) (.t 15), none, []⟩,
        ⟨(some 6), .cn (.t 16), none, [16]⟩])
      (.ret i_ref03_Node_r))))),
  [.tmp 6], [], false, []⟩

def i_law04_TreeHides_r : List Bool := [false, false, false, false, false, false, false, false, true, false, false, false, false, false, false, false, false, false, false, false, false, false, false, false, false, false, false, false, false, false, false, false, false, false, false, false, false, false, false, false, false, false, false, false, false, false, false, false, false, false, false, false, false, false, false, false, false, false, false, false, false, false, false, false, false, false, false, false]
/-- heartwood/heartwoodlaw04.TreeHides -/
def i_law04_TreeHides : Ev.Fn := ⟨4, 68, 2,
  (.seq
   (.reg [] [
     ⟨(some 5), .box 0 5 (.t 1), none, []⟩,
     ⟨(some 8), .mv (.k (.bool false)), none, []⟩])
   (.seq
    (.reg [] [
      ⟨(some 17), .qcall n_law04_up [] [], none, []⟩,
      ⟨(some 9), .mv (.t 17), none, []⟩])
    (.seq
     (.reg [] [
       ⟨(some 18), .load true 5 (.t 5), none, []⟩,
       ⟨(some 19), .qcall n_law04_small [(.t 18)] [], none, []⟩,
       ⟨(some 10), .mv (.t 19), none, []⟩])
     (.seq
      (.reg [] [
        ⟨(some 21), .mv (.t 0), none, []⟩,
        ⟨(some 22), .load true 5 (.t 5), none, []⟩,
        ⟨(some 23), .qcall n_tree_Digest [(.t 21), (.t 22)] [], none, []⟩,
        ⟨(some 20), .mv (.t 23), none, []⟩,
        ⟨(some 24), .ext 0 (.t 20), none, []⟩,
        ⟨(some 25), .ext 1 (.t 20), none, []⟩,
        ⟨(some 11), .cn (.t 24), none, []⟩,
        ⟨(some 12), .mv (.t 25), none, []⟩])
      (.seq
       (.seq
        (.reg [] [
          ⟨(some 26), .mv (.t 10), none, []⟩,
          ⟨(some 27), .un .not (.t 26), none, []⟩,
          ⟨(some 28), .mv (.t 27), none, []⟩,
          ⟨(some 29), .mv (.t 12), (some (28, false)), []⟩,
          ⟨(some 30), .bin (.iface ty_api_Code true) .neq (.t 29) (.k .nilIface), (some (28, false)), []⟩,
          ⟨(some 31), .pick (.t 28) (.k (.bool true)) (.t 30), none, []⟩])
        (.cond (.t 31)
         (.seq
          (.reg [] [
            ⟨(some 32), .mv (.t 9), none, []⟩,
            ⟨(some 8), .mv (.t 32), none, []⟩])
          (.ret i_law04_TreeHides_r))
         .skip))
       (.seq
        (.seq
         (.reg [] [
           ⟨(some 33), .mv (.t 2), none, []⟩,
           ⟨(some 34), .bin .plain .lss (.t 33) (.k (.int .i64 0)), none, []⟩])
         (.cond (.t 34)
          (.reg [] [
            ⟨(some 35), .mv (.t 2), none, []⟩,
            ⟨(some 36), .bin .plain .add (.t 35) (.k (.int .i64 1)), none, []⟩,
            ⟨(some 37), .un .neg (.t 36), none, []⟩,
            ⟨(some 2), .mv (.t 37), none, []⟩])
          .skip))
        (.seq
         (.reg [] [
           ⟨(some 39), .mv (.t 0), none, []⟩,
           ⟨(some 40), .load true 5 (.t 5), none, []⟩,
           ⟨(some 41), .mv (.t 2), none, []⟩,
           ⟨(some 42), .bin .plain .rem (.t 41) (.k (.int .i64 8)), none, []⟩,
           ⟨(some 43), .mv (.t 3), none, []⟩,
           ⟨(some 44), .qcall n_law04_cut [(.t 39), (.t 40), (.t 42), (.t 43)] [], none, []⟩,
           ⟨(some 38), .mv (.t 44), none, []⟩,
           ⟨(some 45), .ext 0 (.t 38), none, []⟩,
           ⟨(some 46), .ext 1 (.t 38), none, []⟩,
           ⟨(some 13), .new 1 [(.int .i64 0), (.slice none 0 0), (.slice none 0 0), (.slice none 0 0), (.slice none 0 0)], none, []⟩,
           ⟨none, .store 5 (.t 13) (.t 45), none, []⟩,
           ⟨(some 14), .mv (.t 46), none, []⟩])
         (.seq
          (.reg [] [
            ⟨(some 48), .mv (.t 0), none, []⟩,
            ⟨(some 49), .load true 5 (.t 13), none, []⟩,
            ⟨(some 50), .qcall n_tree_Digest [(.t 48), (.t 49)] [], none, []⟩,
            ⟨(some 47), .mv (.t 50), none, []⟩,
            ⟨(some 51), .ext 0 (.t 47), none, []⟩,
            ⟨(some 52), .ext 1 (.t 47), none, []⟩,
            ⟨(some 15), .cn (.t 51), none, []⟩,
            ⟨(some 16), .mv (.t 52), none, []⟩])
          (.seq
           (.reg [] [
             ⟨(some 53), .mv (.t 9), none, []⟩,
             ⟨(some 54), .mv (.t 53), none, []⟩,
             ⟨(some 55), .mv (.t 14), (some (54, true)), []⟩,
             ⟨(some 56), .pick (.t 54) (.t 55) (.k (.bool false)), none, []⟩,
             ⟨(some 57), .mv (.t 56), none, []⟩,
             ⟨(some 58), .mv (.t 16), (some (57, true)), []⟩,
             ⟨(some 59), .bin (.iface ty_api_Code true) .eql (.t 58) (.k .nilIface), (some (57, true)), []⟩,
             ⟨(some 60), .pick (.t 57) (.t 59) (.k (.bool false)), none, []⟩,
             ⟨(some 61), .mv (.t 60), none, []⟩,
             ⟨(some 62), .cn (.t 15), (some (61, true)), []⟩,
             ⟨(some 63), .b2s (.t 62), (some (61, true)), []⟩,
             ⟨(some 64), .cn (.t 11), (some (61, true)), []⟩,
             ⟨(some 65), .b2s (.t 64), (some (61, true)), []⟩,
             ⟨(some 66), .bin .plain .eql (.t 63) (.t 65), (some (61, true)), []⟩,
             ⟨(some 67), .pick (.t 61) (.t 66) (.k (.bool false)), none, []⟩,
             ⟨(some 8), .mv (.t 67), none, []⟩])
           (.ret i_law04_TreeHides_r)))))))))),
  [.tmp 8], [], false, []⟩

def i_law04_cut_r : List Bool := [false, false, false, false, false, false, false, false, true, true, false, false, false, false, false, false, false, false, false, false, false, false, false, false, false, false, false, false, false, false, false, false, false, false, false, false, false, false, false, false, false, false, false, false, false, false, false, false, false, false, false, false, false, false, false, false, false, false, false, false, false, false, false, false, false, false, false, false, false, false, false, false, false, false, false, false, false, false, false, false, false, false, false, false, false, false, false, false, false, false, false, false, false, false, false, false, false, false, false, false, false, false, false, false, false, false, false, false, false, false, false]
/-- heartwood/heartwoodlaw04.cut -/
def i_law04_cut : Ev.Fn := ⟨4, 111, 6,
  (.seq
   (.reg [] [
     ⟨(some 5), .box 0 5 (.t 1), none, []⟩,
     ⟨(some 8), .new 1 [(.int .i64 0), (.slice none 0 0), (.slice none 0 0), (.slice none 0 0), (.slice none 0 0)], none, []⟩,
     ⟨(some 9), .mv (.k (.bool false)), none, []⟩])
   (.seq
    (.seq
     (.reg [] [
       ⟨(some 20), .mv (.t 2), none, []⟩,
       ⟨(some 21), .bin .plain .leq (.t 20) (.k (.int .i64 0)), none, []⟩])
     (.cond (.t 21)
      (.seq
       (.reg [] [
         ⟨(some 23), .mv (.t 0), none, []⟩,
         ⟨(some 24), .load true 5 (.t 5), none, []⟩,
         ⟨(some 25), .qcall n_tree_Digest [(.t 23), (.t 24)] [], none, []⟩,
         ⟨(some 22), .mv (.t 25), none, []⟩,
         ⟨(some 26), .ext 0 (.t 22), none, []⟩,
         ⟨(some 27), .ext 1 (.t 22), none, []⟩,
         ⟨(some 10), .cn (.t 26), none, []⟩,
         ⟨(some 11), .mv (.t 27), none, []⟩])
       (.seq
        (.reg [] [
          ⟨(some 28), .cn (.t 10), none, []⟩,
          ⟨(some 29), .build [(.int .i64 0), (.slice none 0 0), (.slice none 0 0), (.slice none 0 0), (.slice none 0 0)] [(0, 1, (.k (.int .i64 3))), (3, 1, (.t 28))], none, []⟩,
          ⟨(some 30), .mv (.t 11), none, []⟩,
          ⟨(some 31), .bin (.iface ty_api_Code true) .eql (.t 30) (.k .nilIface), none, []⟩,
          ⟨none, .store 5 (.t 8) (.t 29), none, []⟩,
          ⟨(some 9), .mv (.t 31), none, []⟩])
        (.ret i_law04_cut_r)))
      .skip))
    (.seq
     (.seq
      (.reg [] [
        ⟨(some 32), .fa 4 (.t 5), none, []⟩,
        ⟨(some 33), .load false 1 (.t 32), none, []⟩,
        ⟨(some 34), .len false (.t 33), none, []⟩,
        ⟨(some 35), .bin .plain .neq (.t 34) (.k (.int .i64 2)), none, []⟩])
      (.cond (.t 35)
       (.seq
        (.reg [] [
          ⟨(some 36), .load true 5 (.t 5), none, []⟩,
          ⟨none, .store 5 (.t 8) (.t 36), none, []⟩,
          ⟨(some 9), .mv (.k (.bool true)), none, []⟩])
        (.ret i_law04_cut_r))
       .skip))
     (.seq
      (.reg [] [
        ⟨(some 38), .mv (.t 0), none, []⟩,
        ⟨(some 39), .fa 4 (.t 5), none, []⟩,
        ⟨(some 40), .load false 1 (.t 39), none, []⟩,
        ⟨(some 41), .ia 5 (.t 40) (.k (.int .i64 0)), none, []⟩,
        ⟨(some 42), .load true 5 (.t 41), none, []⟩,
        ⟨(some 43), .mv (.t 2), none, []⟩,
        ⟨(some 44), .bin .plain .sub (.t 43) (.k (.int .i64 1)), none, []⟩,
        ⟨(some 45), .mv (.t 3), none, []⟩,
        ⟨(some 46), .qcall n_law04_cut [(.t 38), (.t 42), (.t 44), (.t 45)] [], none, []⟩,
        ⟨(some 37), .mv (.t 46), none, []⟩,
        ⟨(some 47), .ext 0 (.t 37), none, []⟩,
        ⟨(some 48), .ext 1 (.t 37), none, []⟩,
        ⟨(some 12), .new 2 [(.int .i64 0), (.slice none 0 0), (.slice none 0 0), (.slice none 0 0), (.slice none 0 0)], none, []⟩,
        ⟨none, .store 5 (.t 12) (.t 47), none, []⟩,
        ⟨(some 13), .mv (.t 48), none, []⟩])
      (.seq
       (.reg [] [
         ⟨(some 50), .mv (.t 0), none, []⟩,
         ⟨(some 51), .fa 4 (.t 5), none, []⟩,
         ⟨(some 52), .load false 1 (.t 51), none, []⟩,
         ⟨(some 53), .ia 5 (.t 52) (.k (.int .i64 1)), none, []⟩,
         ⟨(some 54), .load true 5 (.t 53), none, []⟩,
         ⟨(some 55), .mv (.t 2), none, []⟩,
         ⟨(some 56), .bin .plain .sub (.t 55) (.k (.int .i64 1)), none, []⟩,
         ⟨(some 57), .mv (.t 3), none, []⟩,
         ⟨(some 58), .qcall n_law04_cut [(.t 50), (.t 54), (.t 56), (.t 57)] [], none, []⟩,
         ⟨(some 49), .mv (.t 58), none, []⟩,
         ⟨(some 59), .ext 0 (.t 49), none, []⟩,
         ⟨(some 60), .ext 1 (.t 49), none, []⟩,
         ⟨(some 14), .new 3 [(.int .i64 0), (.slice none 0 0), (.slice none 0 0), (.slice none 0 0), (.slice none 0 0)], none, []⟩,
         ⟨none, .store 5 (.t 14) (.t 59), none, []⟩,
         ⟨(some 15), .mv (.t 60), none, []⟩])
       (.seq
        (.reg [] [
          ⟨(some 61), .fa 0 (.t 5), none, []⟩,
          ⟨(some 62), .load false 1 (.t 61), none, []⟩,
          ⟨(some 63), .fa 1 (.t 5), none, []⟩,
          ⟨(some 64), .load false 1 (.t 63), none, []⟩,
          ⟨(some 65), .fa 2 (.t 5), none, []⟩,
          ⟨(some 66), .load false 1 (.t 65), none, []⟩,
          ⟨(some 67), .fa 3 (.t 5), none, []⟩,
          ⟨(some 68), .load false 1 (.t 67), none, []⟩,
          ⟨(some 69), .load true 5 (.t 12), none, []⟩,
          ⟨(some 70), .load true 5 (.t 14), none, []⟩,
          ⟨(some 71), .litd 5 2 [(.int .i64 0), (.slice none 0 0), (.slice none 0 0), (.slice none 0 0), (.slice none 0 0)] [(0, (.t 69)), (1, (.t 70))], none, []⟩,
          ⟨(some 72), .build [(.int .i64 0), (.slice none 0 0), (.slice none 0 0), (.slice none 0 0), (.slice none 0 0)] [(0, 1, (.t 62)), (1, 1, (.t 64)), (2, 1, (.t 66)), (3, 1, (.t 68)), (4, 1, (.t 71))], none, []⟩,
          ⟨(some 16), .new 4 [(.int .i64 0), (.slice none 0 0), (.slice none 0 0), (.slice none 0 0), (.slice none 0 0)], none, []⟩,
          ⟨none, .store 5 (.t 16) (.t 72), none, []⟩])
        (.seq
         (.seq
          (.reg [] [
            ⟨(some 73), .mv (.t 3), none, []⟩,
            ⟨(some 74), .mv (.t 73), none, []⟩,
            ⟨(some 75), .fa 0 (.t 5), (some (74, true)), []⟩,
            ⟨(some 76), .load false 1 (.t 75), (some (74, true)), []⟩,
            ⟨(some 77), .bin .plain .eql (.t 76) (.k (.int .i64 1)), (some (74, true)), []⟩,
            ⟨(some 78), .pick (.t 74) (.t 77) (.k (.bool false)), none, []⟩])
          (.cond (.t 78)
           (.seq
            (.reg [] [
              ⟨(some 80), .qcall n_ref01_Made [] [], none, []⟩,
              ⟨(some 81), .mv (.t 0), none, []⟩,
              ⟨(some 82), .load true 5 (.t 5), none, []⟩,
              ⟨(some 83), .qcall n_ref04_Digest [(.t 80), (.t 81), (.t 82)] [], none, []⟩,
              ⟨(some 79), .mv (.t 83), none, []⟩,
              ⟨(some 84), .ext 0 (.t 79), none, []⟩,
              ⟨(some 85), .ext 1 (.t 79), none, []⟩,
              ⟨(some 17), .cn (.t 84), none, []⟩,
              ⟨(some 18), .mv (.t 85), none, []⟩])
            (.seq
             (.seq
              (.reg [] [
                ⟨(some 86), .cn (.t 17), none, []⟩,
                ⟨(some 87), .len false (.t 86), none, []⟩,
                ⟨(some 88), .mv (.t 0), none, []⟩,
                ⟨(some 89), .bin .plain .neq (.t 87) (.t 88), none, []⟩])
              (.cond (.t 89)
               (.seq
                (.reg [] [
                  ⟨(some 90), .build [(.int .i64 0), (.slice none 0 0), (.slice none 0 0), (.slice none 0 0), (.slice none 0 0)] [], none, []⟩,
                  ⟨none, .store 5 (.t 8) (.t 90), none, []⟩,
                  ⟨(some 9), .mv (.k (.bool false)), none, []⟩])
                (.ret i_law04_cut_r))
               .skip))
             (.seq
              (.reg [(1, 3)] [
                ⟨(some 91), .qcall n_ref01_Made [] [], none, []⟩,
                ⟨(some 92), .lit 5 ty_uint8 1 1 [(.int .u8 0)] [(0, (.k (.int .u8 0)))], none, []⟩,
                ⟨(some 93), .fa 2 (.t 5), none, []⟩,
                ⟨(some 94), .load false 1 (.t 93), none, []⟩,
                ⟨(some 95), .app 5 ty_uint8 1 1 (.t 92) (.t 94), none, []⟩,
                ⟨(some 96), .qcall n_ref01_Tables_Sum [(.t 91), (.t 95)] [], none, [95]⟩,
                ⟨(some 19), .cn (.t 96), none, []⟩])
              (.reg [] [
                ⟨(some 97), .fa 1 (.t 5), none, []⟩,
                ⟨(some 98), .load false 1 (.t 97), none, []⟩,
                ⟨(some 99), .cn (.t 19), none, []⟩,
                ⟨(some 100), .mv (.t 0), none, []⟩,
                ⟨(some 101), .slice 1 (.t 99) none (some (.t 100)) none, none, []⟩,
                ⟨(some 102), .load true 5 (.t 12), none, []⟩,
                ⟨(some 103), .load true 5 (.t 14), none, []⟩,
                ⟨(some 104), .litd 5 2 [(.int .i64 0), (.slice none 0 0), (.slice none 0 0), (.slice none 0 0), (.slice none 0 0)] [(0, (.t 102)), (1, (.t 103))], none, []⟩,
                ⟨(some 105), .build [(.int .i64 0), (.slice none 0 0), (.slice none 0 0), (.slice none 0 0), (.slice none 0 0)] [(0, 1, (.k (.int .i64 2))), (1, 1, (.t 98)), (3, 1, (.t 101)), (4, 1, (.t 104))], none, []⟩,
                ⟨none, .store 5 (.t 16) (.t 105), none, []⟩]))))
           .skip))
         (.seq
          (.reg [] [
            ⟨(some 106), .load true 5 (.t 16), none, []⟩,
            ⟨(some 107), .mv (.t 13), none, []⟩,
            ⟨(some 108), .mv (.t 107), none, []⟩,
            ⟨(some 109), .mv (.t 15), (some (108, true)), []⟩,
            ⟨(some 110), .pick (.t 108) (.t 109) (.k (.bool false)), none, []⟩,
            ⟨none, .store 5 (.t 8) (.t 106), none, []⟩,
            ⟨(some 9), .mv (.t 110), none, []⟩])
          (.ret i_law04_cut_r))))))))),
  [.cell 8 true 5, .tmp 9], [], false, []⟩

end Go.Proofs.YtebiajdkgpcidaaDoor
