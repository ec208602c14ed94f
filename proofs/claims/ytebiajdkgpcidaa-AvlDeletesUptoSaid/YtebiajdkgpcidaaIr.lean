/- The IR of the seat's functions, printed by a program of this session. -/
import Derived.Test.YtebiajdkgpcidaaIrP1
set_option linter.unusedVariables false
namespace Go.Proofs.Ytebiajdkgpcidaa
open Go.Ev

abbrev s_ref02_Reader_Number_J0 (t0 t4 t5 : AV) (h : Heap) : St := ⟨[t0, .undef, .undef, .undef, t4, t5, .undef, .undef, .undef, .undef, .undef, .undef, .undef, .undef, .undef, .undef, .undef, .undef, .undef, .undef, .undef, .undef, .undef, .undef, .undef, .undef, .undef, .undef, .undef, .undef, .undef, .undef, .undef, .undef, .undef, .undef, .undef, .undef, .undef, .undef, .undef, .undef, .undef, .undef, .undef, .undef, .undef, .undef, .undef, .undef, .undef, .undef, .undef, .undef, .undef, .undef, .undef, .undef, .undef, .undef, .undef, .undef, .undef, .undef, .undef, .undef, .undef, .undef, .undef, .undef, .undef, .undef, .undef, .undef, .undef, .undef, .undef, .undef, .undef, .undef, .undef, .undef, .undef, .undef, .undef, .undef], h⟩
/-- (*heartwood/heartwoodref02.Reader).Number -/
def i_ref02_Reader_Number : Ev.Fn := ⟨1, 86, 0,
  (.seq
   (.reg [] [
     ⟨(some 2), .mv (.k (.int .u64 0)), none, []⟩])
   (.seq
    (.reg [] [
      ⟨(some 7), .mv (.t 0), none, []⟩,
      ⟨(some 8), .call n_ref02_Reader_Byte [(.t 7)] [], none, []⟩,
      ⟨(some 3), .mv (.t 8), none, []⟩])
    (.seq
     (.seq
      (.reg [] [
        ⟨(some 9), .mv (.t 0), none, []⟩,
        ⟨(some 10), .nilc (.t 9), none, []⟩,
        ⟨(some 11), .fa 2 (.t 10), none, []⟩,
        ⟨(some 12), .load false 1 (.t 11), none, []⟩,
        ⟨(some 13), .mv (.t 12), none, []⟩,
        ⟨(some 14), .mv (.t 3), (some (13, false)), []⟩,
        ⟨(some 15), .bin .plain .lss (.t 14) (.k (.int .u8 248)), (some (13, false)), []⟩,
        ⟨(some 16), .pick (.t 13) (.k (.bool true)) (.t 15), none, []⟩])
      (.cond (.t 16)
       (.seq
        (.reg [] [
          ⟨(some 17), .mv (.t 3), none, []⟩,
          ⟨(some 18), .conv .u64 (.t 17), none, []⟩,
          ⟨(some 2), .mv (.t 18), none, []⟩])
        (.ret i_ref02_Reader_Number_r))
       .skip))
     (.seq
      (.reg [] [
        ⟨(some 19), .mv (.t 3), none, []⟩,
        ⟨(some 20), .conv .i64 (.t 19), none, []⟩,
        ⟨(some 21), .bin .plain .sub (.t 20) (.k (.int .i64 247)), none, []⟩,
        ⟨(some 4), .mv (.t 21), none, []⟩])
      (.seq
       (.seq
        (.reg [] [
          ⟨(some 22), .mv (.t 0), none, []⟩,
          ⟨(some 23), .nilc (.t 22), none, []⟩,
          ⟨(some 24), .fa 0 (.t 23), none, []⟩,
          ⟨(some 25), .load false 1 (.t 24), none, []⟩,
          ⟨(some 26), .len false (.t 25), none, []⟩,
          ⟨(some 27), .mv (.t 0), none, []⟩,
          ⟨(some 28), .nilc (.t 27), none, []⟩,
          ⟨(some 29), .fa 1 (.t 28), none, []⟩,
          ⟨(some 30), .load false 1 (.t 29), none, []⟩,
          ⟨(some 31), .bin .plain .sub (.t 26) (.t 30), none, []⟩,
          ⟨(some 32), .mv (.t 4), none, []⟩,
          ⟨(some 33), .bin .plain .lss (.t 31) (.t 32), none, []⟩])
        (.cond (.t 33)
         (.seq
          (.reg [] [
            ⟨(some 34), .mv (.t 0), none, []⟩,
            ⟨(some 35), .nilc (.t 34), none, []⟩,
            ⟨(some 36), .fa 2 (.t 35), none, []⟩,
            ⟨none, .store 1 (.t 36) (.k (.bool true)), none, []⟩])
          (.seq
           (.reg [] [
             ⟨(some 2), .mv (.k (.int .u64 0)), none, []⟩])
           (.ret i_ref02_Reader_Number_r)))
         .skip))
       (.seq
        (.reg [] [
          ⟨(some 5), .mv (.k (.int .u64 0)), none, []⟩])
        (.seq
         (.seq
          (.reg [] [
            ⟨(some 6), .mv (.k (.int .i64 0)), none, []⟩])
          (.block 0 i_ref02_Reader_Number_j0
           (.loop i_ref02_Reader_Number_k0 i_ref02_Reader_Number_b0)))
         (.seq
          (.seq
           (.reg [] [
             ⟨(some 58), .mv (.t 0), none, []⟩,
             ⟨(some 59), .nilc (.t 58), none, []⟩,
             ⟨(some 60), .fa 0 (.t 59), none, []⟩,
             ⟨(some 61), .load false 1 (.t 60), none, []⟩,
             ⟨(some 62), .mv (.t 0), none, []⟩,
             ⟨(some 63), .nilc (.t 62), none, []⟩,
             ⟨(some 64), .fa 1 (.t 63), none, []⟩,
             ⟨(some 65), .load false 1 (.t 64), none, []⟩,
             ⟨(some 66), .ia 1 (.t 61) (.t 65), none, []⟩,
             ⟨(some 67), .load false 1 (.t 66), none, []⟩,
             ⟨(some 68), .bin .plain .eql (.t 67) (.k (.int .u8 0)), none, []⟩,
             ⟨(some 69), .mv (.t 68), none, []⟩,
             ⟨(some 70), .mv (.t 5), (some (69, false)), []⟩,
             ⟨(some 71), .bin .plain .lss (.t 70) (.k (.int .u64 248)), (some (69, false)), []⟩,
             ⟨(some 72), .pick (.t 69) (.k (.bool true)) (.t 71), none, []⟩])
           (.cond (.t 72)
            (.seq
             (.reg [] [
               ⟨(some 73), .mv (.t 0), none, []⟩,
               ⟨(some 74), .nilc (.t 73), none, []⟩,
               ⟨(some 75), .fa 2 (.t 74), none, []⟩,
               ⟨none, .store 1 (.t 75) (.k (.bool true)), none, []⟩])
             (.seq
              (.reg [] [
                ⟨(some 2), .mv (.k (.int .u64 0)), none, []⟩])
              (.ret i_ref02_Reader_Number_r)))
            .skip))
          (.seq
           (.reg [] [
             ⟨(some 76), .mv (.t 0), none, []⟩,
             ⟨(some 77), .mv (.t 0), none, []⟩,
             ⟨(some 78), .nilc (.t 77), none, []⟩,
             ⟨(some 79), .fa 1 (.t 78), none, []⟩,
             ⟨(some 80), .load false 1 (.t 79), none, []⟩,
             ⟨(some 81), .mv (.t 4), none, []⟩,
             ⟨(some 82), .bin .plain .add (.t 80) (.t 81), none, []⟩,
             ⟨(some 83), .nilc (.t 76), none, []⟩,
             ⟨(some 84), .fa 1 (.t 83), none, []⟩,
             ⟨none, .store 1 (.t 84) (.t 82), none, []⟩])
           (.seq
            (.reg [] [
              ⟨(some 85), .mv (.t 5), none, []⟩,
              ⟨(some 2), .mv (.t 85), none, []⟩])
            (.ret i_ref02_Reader_Number_r))))))))))),
  [.tmp 2], [], false, []⟩

def i_ref02_Reader_End_r : List Bool := [false, false, true, false, false, false, false, false, false, false, false, false, false, false, false, false, false]
/-- (*heartwood/heartwoodref02.Reader).End -/
def i_ref02_Reader_End : Ev.Fn := ⟨1, 17, 0,
  (.seq
   (.reg [] [
     ⟨(some 2), .mv (.k (.int .i64 0)), none, []⟩])
   (.seq
    (.seq
     (.reg [] [
       ⟨(some 3), .mv (.t 0), none, []⟩,
       ⟨(some 4), .nilc (.t 3), none, []⟩,
       ⟨(some 5), .fa 2 (.t 4), none, []⟩,
       ⟨(some 6), .load false 1 (.t 5), none, []⟩])
     (.cond (.t 6)
      (.seq
       (.reg [] [
         ⟨(some 2), .mv (.k (.int .i64 3)), none, []⟩])
       (.ret i_ref02_Reader_End_r))
      .skip))
    (.seq
     (.seq
      (.reg [] [
        ⟨(some 7), .mv (.t 0), none, []⟩,
        ⟨(some 8), .nilc (.t 7), none, []⟩,
        ⟨(some 9), .fa 1 (.t 8), none, []⟩,
        ⟨(some 10), .load false 1 (.t 9), none, []⟩,
        ⟨(some 11), .mv (.t 0), none, []⟩,
        ⟨(some 12), .nilc (.t 11), none, []⟩,
        ⟨(some 13), .fa 0 (.t 12), none, []⟩,
        ⟨(some 14), .load false 1 (.t 13), none, []⟩,
        ⟨(some 15), .len false (.t 14), none, []⟩,
        ⟨(some 16), .bin .plain .lss (.t 10) (.t 15), none, []⟩])
      (.cond (.t 16)
       (.seq
        (.reg [] [
          ⟨(some 2), .mv (.k (.int .i64 4)), none, []⟩])
        (.ret i_ref02_Reader_End_r))
       .skip))
     (.seq
      (.reg [] [
        ⟨(some 2), .mv (.k (.int .i64 0)), none, []⟩])
      (.ret i_ref02_Reader_End_r))))),
  [.tmp 2], [], false, []⟩

def i_law10_CodeBack_r : List Bool := [false, false, false, false, false, false, true, false, false, false, false, false, false, false, false, false, false, false, false, false, false, false, false, false, false, false, false, false, false, false, false, false, false, false, false, false, false, false, false, false, false, false, false, false, false, false, false, false, false, false, false, false, false, false, false, false, false, false, false, false, false, false, false, false, false, false, false, false, false, false, false, false, false, false, false, false, false, false, false, false, false, false, false, false, false, false, false, false, false, false, false, false, false, false, false, false, false, false, false, false, false, false, false, false, false, false, false, false, false, false]
/-- heartwood/heartwoodlaw10.CodeBack -/
def i_law10_CodeBack : Ev.Fn := ⟨3, 110, 6,
  (.seq
   (.reg [] [
     ⟨(some 3), .box 0 5 (.t 0), none, []⟩,
     ⟨(some 6), .mv (.k (.bool false)), none, []⟩])
   (.seq
    (.reg [] [
      ⟨(some 21), .qcall n_law10_up [] [], none, []⟩,
      ⟨(some 7), .mv (.t 21), none, []⟩])
    (.seq
     (.reg [] [
       ⟨(some 22), .load true 5 (.t 3), none, []⟩,
       ⟨(some 23), .qcall n_law10_small [(.t 22)] [], none, []⟩,
       ⟨(some 8), .mv (.t 23), none, []⟩])
     (.seq
      (.seq
       (.reg [] [
         ⟨(some 24), .mv (.t 8), none, []⟩,
         ⟨(some 25), .un .not (.t 24), none, []⟩,
         ⟨(some 26), .mv (.t 25), none, []⟩,
         ⟨(some 27), .cn (.t 2), (some (26, false)), []⟩,
         ⟨(some 28), .len false (.t 27), (some (26, false)), []⟩,
         ⟨(some 29), .bin .plain .gtr (.t 28) (.k (.int .i64 5000)), (some (26, false)), []⟩,
         ⟨(some 30), .pick (.t 26) (.k (.bool true)) (.t 29), none, []⟩])
       (.cond (.t 30)
        (.seq
         (.reg [] [
           ⟨(some 31), .mv (.t 7), none, []⟩,
           ⟨(some 6), .mv (.t 31), none, []⟩])
         (.ret i_law10_CodeBack_r))
        .skip))
      (.seq
       (.reg [] [
         ⟨(some 33), .cn (.t 2), none, []⟩,
         ⟨(some 34), .qcall n_code_Read [(.t 33)] [], none, []⟩,
         ⟨(some 32), .mv (.t 34), none, []⟩,
         ⟨(some 35), .ext 0 (.t 32), none, []⟩,
         ⟨(some 36), .ext 1 (.t 32), none, []⟩,
         ⟨(some 9), .new 1 [(.int .i64 0), (.slice none 0 0), (.slice none 0 0), (.slice none 0 0), (.slice none 0 0)], none, []⟩,
         ⟨none, .store 5 (.t 9) (.t 35), none, []⟩,
         ⟨(some 10), .mv (.t 36), none, []⟩])
       (.seq
        (.reg [] [
          ⟨(some 38), .load true 5 (.t 9), none, []⟩,
          ⟨(some 39), .qcall n_code_Write [(.t 38)] [], none, []⟩,
          ⟨(some 37), .mv (.t 39), none, []⟩,
          ⟨(some 40), .ext 0 (.t 37), none, []⟩,
          ⟨(some 41), .ext 1 (.t 37), none, []⟩,
          ⟨(some 11), .cn (.t 40), none, []⟩,
          ⟨(some 12), .mv (.t 41), none, []⟩])
        (.seq
         (.seq
          (.reg [] [
            ⟨(some 42), .mv (.t 10), none, []⟩,
            ⟨(some 43), .bin (.iface ty_api_Code true) .eql (.t 42) (.k .nilIface), none, []⟩,
            ⟨(some 44), .mv (.t 43), none, []⟩,
            ⟨(some 45), .mv (.t 12), (some (44, true)), []⟩,
            ⟨(some 46), .bin (.iface ty_api_Code true) .neq (.t 45) (.k .nilIface), (some (44, true)), []⟩,
            ⟨(some 47), .mv (.t 46), (some (44, true)), []⟩,
            ⟨(some 48), .cn (.t 11), (some (47, false)), []⟩,
            ⟨(some 49), .b2s (.t 48), (some (47, false)), []⟩,
            ⟨(some 50), .cn (.t 2), (some (47, false)), []⟩,
            ⟨(some 51), .b2s (.t 50), (some (47, false)), []⟩,
            ⟨(some 52), .bin .plain .neq (.t 49) (.t 51), (some (47, false)), []⟩,
            ⟨(some 53), .pick (.t 47) (.k (.bool true)) (.t 52), (some (44, true)), []⟩,
            ⟨(some 54), .pick (.t 44) (.t 53) (.k (.bool false)), none, []⟩])
          (.cond (.t 54)
           (.seq
            (.reg [] [
              ⟨(some 6), .mv (.k (.bool false)), none, []⟩])
            (.ret i_law10_CodeBack_r))
           .skip))
         (.seq
          (.reg [] [
            ⟨(some 56), .load true 5 (.t 3), none, []⟩,
            ⟨(some 57), .qcall n_code_Write [(.t 56)] [], none, []⟩,
            ⟨(some 55), .mv (.t 57), none, []⟩,
            ⟨(some 58), .ext 0 (.t 55), none, []⟩,
            ⟨(some 59), .ext 1 (.t 55), none, []⟩,
            ⟨(some 13), .cn (.t 58), none, []⟩,
            ⟨(some 14), .mv (.t 59), none, []⟩])
          (.seq
           (.seq
            (.reg [] [
              ⟨(some 60), .mv (.t 14), none, []⟩,
              ⟨(some 61), .bin (.iface ty_api_Code true) .neq (.t 60) (.k .nilIface), none, []⟩])
            (.cond (.t 61)
             (.seq
              (.reg [] [
                ⟨(some 62), .mv (.t 7), none, []⟩,
                ⟨(some 6), .mv (.t 62), none, []⟩])
              (.ret i_law10_CodeBack_r))
             .skip))
           (.seq
            (.reg [] [
              ⟨(some 64), .cn (.t 13), none, []⟩,
              ⟨(some 65), .qcall n_code_Read [(.t 64)] [], none, []⟩,
              ⟨(some 63), .mv (.t 65), none, []⟩,
              ⟨(some 66), .ext 0 (.t 63), none, []⟩,
              ⟨(some 67), .ext 1 (.t 63), none, []⟩,
              ⟨(some 15), .new 2 [(.int .i64 0), (.slice none 0 0), (.slice none 0 0), (.slice none 0 0), (.slice none 0 0)], none, []⟩,
              ⟨none, .store 5 (.t 15) (.t 66), none, []⟩,
              ⟨(some 16), .mv (.t 67), none, []⟩])
            (.seq
             (.seq
              (.reg [] [
                ⟨(some 68), .mv (.t 16), none, []⟩,
                ⟨(some 69), .bin (.iface ty_api_Code true) .neq (.t 68) (.k .nilIface), none, []⟩,
                ⟨(some 70), .mv (.t 69), none, []⟩,
                ⟨(some 71), .cn (.t 13), (some (70, false)), []⟩,
                ⟨(some 72), .len false (.t 71), (some (70, false)), []⟩,
                ⟨(some 73), .bin .plain .eql (.t 72) (.k (.int .i64 0)), (some (70, false)), []⟩,
                ⟨(some 74), .pick (.t 70) (.k (.bool true)) (.t 73), none, []⟩])
              (.cond (.t 74)
               (.seq
                (.reg [] [
                  ⟨(some 6), .mv (.k (.bool false)), none, []⟩])
                (.ret i_law10_CodeBack_r))
               .skip))
             (.seq
              (.reg [] [
                ⟨(some 76), .cn (.t 13), none, []⟩,
                ⟨(some 77), .cn (.t 13), none, []⟩,
                ⟨(some 78), .len false (.t 77), none, []⟩,
                ⟨(some 79), .bin .plain .sub (.t 78) (.k (.int .i64 1)), none, []⟩,
                ⟨(some 80), .slice 1 (.t 76) none (some (.t 79)) none, none, []⟩,
                ⟨(some 81), .qcall n_code_Read [(.t 80)] [], none, []⟩,
                ⟨(some 75), .mv (.t 81), none, []⟩,
                ⟨(some 82), .ext 0 (.t 75), none, []⟩,
                ⟨(some 83), .ext 1 (.t 75), none, []⟩,
                ⟨(some 17), .new 3 [(.int .i64 0), (.slice none 0 0), (.slice none 0 0), (.slice none 0 0), (.slice none 0 0)], none, []⟩,
                ⟨none, .store 5 (.t 17) (.t 82), none, []⟩,
                ⟨(some 18), .mv (.t 83), none, []⟩])
              (.seq
               (.reg [] [
                 ⟨(some 85), .lit 4 ty_uint8 1 0 [(.int .u8 0)] [], none, []⟩,
                 ⟨(some 86), .cn (.t 13), none, []⟩,
                 ⟨(some 87), .app 4 ty_uint8 1 1 (.t 85) (.t 86), none, []⟩,
                 ⟨(some 88), .mv (.t 1), none, []⟩,
                 ⟨(some 89), .litd 1 1 [(.int .u8 0)] [(0, (.t 88))], none, []⟩,
                 ⟨(some 90), .app 4 ty_uint8 1 1 (.t 87) (.t 89), none, []⟩,
                 ⟨(some 91), .qcall n_code_Read [(.t 90)] [], none, [90]⟩,
                 ⟨(some 84), .mv (.t 91), none, []⟩,
                 ⟨(some 92), .ext 0 (.t 84), none, []⟩,
                 ⟨(some 93), .ext 1 (.t 84), none, []⟩,
                 ⟨(some 19), .new 5 [(.int .i64 0), (.slice none 0 0), (.slice none 0 0), (.slice none 0 0), (.slice none 0 0)], none, []⟩,
                 ⟨none, .store 5 (.t 19) (.t 92), none, []⟩,
                 ⟨(some 20), .mv (.t 93), none, []⟩])
               (.seq
                (.reg [] [
                  ⟨(some 94), .mv (.t 7), none, []⟩,
                  ⟨(some 95), .mv (.t 94), none, []⟩,
                  ⟨(some 96), .load true 5 (.t 15), (some (95, true)), []⟩,
                  ⟨(some 97), .load true 5 (.t 3), (some (95, true)), []⟩,
                  ⟨(some 98), .qcall n_ref04_Same [(.t 96), (.t 97)] [], (some (95, true)), []⟩,
                  ⟨(some 99), .pick (.t 95) (.t 98) (.k (.bool false)), none, []⟩,
                  ⟨(some 100), .mv (.t 99), none, []⟩,
                  ⟨(some 101), .mv (.t 18), (some (100, true)), []⟩,
                  ⟨(some 102), .mki ty_api_Code (.k (.int .i64 3)), (some (100, true)), []⟩,
                  ⟨(some 103), .bin (.iface ty_api_Code false) .eql (.t 101) (.t 102), (some (100, true)), []⟩,
                  ⟨(some 104), .pick (.t 100) (.t 103) (.k (.bool false)), none, []⟩,
                  ⟨(some 105), .mv (.t 104), none, []⟩,
                  ⟨(some 106), .mv (.t 20), (some (105, true)), []⟩,
                  ⟨(some 107), .mki ty_api_Code (.k (.int .i64 4)), (some (105, true)), []⟩,
                  ⟨(some 108), .bin (.iface ty_api_Code false) .eql (.t 106) (.t 107), (some (105, true)), []⟩,
                  ⟨(some 109), .pick (.t 105) (.t 108) (.k (.bool false)), none, []⟩,
                  ⟨(some 6), .mv (.t 109), none, []⟩])
                (.ret i_law10_CodeBack_r))))))))))))))),
  [.tmp 6], [], false, []⟩

def i_law05_AvlDeletes_r : List Bool := [false, false, false, false, true, false, false, false, false, false, false, false, false, false, false, false, false, false, false, false, false, false, false, false, false, false, false, false, false, false, false, false, false, false, false, false, false, false, false, false, false, false, false, false, false, false, false, false, false, false, false, false, false, false, false, false, false, false, false, false, false, false, false, false, false, false, false, false, false, false, false, false, false, false, false]
/-- heartwood/heartwoodlaw05.AvlDeletes -/
def i_law05_AvlDeletes : Ev.Fn := ⟨2, 75, 2,
  (.seq
   (.reg [] [
     ⟨(some 2), .box 0 5 (.t 0), none, []⟩,
     ⟨(some 4), .mv (.k (.bool false)), none, []⟩])
   (.seq
    (.reg [] [
      ⟨(some 13), .qcall n_law05_up [] [], none, []⟩,
      ⟨(some 5), .mv (.t 13), none, []⟩])
    (.seq
     (.reg [] [
       ⟨(some 14), .load true 5 (.t 2), none, []⟩,
       ⟨(some 15), .qcall n_law05_small [(.t 14)] [], none, []⟩,
       ⟨(some 6), .mv (.t 15), none, []⟩])
     (.seq
      (.seq
       (.reg [] [
         ⟨(some 16), .mv (.t 6), none, []⟩,
         ⟨(some 17), .un .not (.t 16), none, []⟩,
         ⟨(some 18), .mv (.t 17), none, []⟩,
         ⟨(some 19), .cn (.t 1), (some (18, false)), []⟩,
         ⟨(some 20), .len false (.t 19), (some (18, false)), []⟩,
         ⟨(some 21), .bin .plain .gtr (.t 20) (.k (.int .i64 5000)), (some (18, false)), []⟩,
         ⟨(some 22), .pick (.t 18) (.k (.bool true)) (.t 21), none, []⟩])
       (.cond (.t 22)
        (.seq
         (.reg [] [
           ⟨(some 23), .mv (.t 5), none, []⟩,
           ⟨(some 4), .mv (.t 23), none, []⟩])
         (.ret i_law05_AvlDeletes_r))
        .skip))
      (.seq
       (.reg [] [
         ⟨(some 25), .load true 5 (.t 2), none, []⟩,
         ⟨(some 26), .cn (.t 1), none, []⟩,
         ⟨(some 27), .qcall n_avl_Delete [(.t 25), (.t 26)] [], none, []⟩,
         ⟨(some 24), .mv (.t 27), none, []⟩,
         ⟨(some 28), .ext 0 (.t 24), none, []⟩,
         ⟨(some 29), .ext 1 (.t 24), none, []⟩,
         ⟨(some 30), .ext 2 (.t 24), none, []⟩,
         ⟨(some 7), .new 1 [(.int .i64 0), (.slice none 0 0), (.slice none 0 0), (.slice none 0 0), (.slice none 0 0)], none, []⟩,
         ⟨none, .store 5 (.t 7) (.t 28), none, []⟩,
         ⟨(some 8), .mv (.t 29), none, []⟩,
         ⟨(some 9), .mv (.t 30), none, []⟩])
       (.seq
        (.reg [] [
          ⟨(some 31), .load true 5 (.t 2), none, []⟩,
          ⟨(some 32), .cn (.t 1), none, []⟩,
          ⟨(some 33), .qcall n_law05_asked [(.t 31), (.t 32), (.k (.slice none 0 0))] [], none, []⟩,
          ⟨(some 10), .mv (.t 33), none, []⟩])
        (.seq
         (.seq
          (.reg [] [
            ⟨(some 34), .mv (.t 10), none, []⟩,
            ⟨(some 35), .bin .plain .neq (.t 34) (.k (.int .i64 0)), none, []⟩])
          (.cond (.t 35)
           (.seq
            (.reg [] [
              ⟨(some 36), .mv (.t 5), none, []⟩,
              ⟨(some 37), .mv (.t 36), none, []⟩,
              ⟨(some 38), .mv (.t 9), (some (37, true)), []⟩,
              ⟨(some 39), .qcall n_law00_Code [(.t 38)] [], (some (37, true)), []⟩,
              ⟨(some 40), .mv (.t 10), (some (37, true)), []⟩,
              ⟨(some 41), .bin .plain .eql (.t 39) (.t 40), (some (37, true)), []⟩,
              ⟨(some 42), .pick (.t 37) (.t 41) (.k (.bool false)), none, []⟩,
              ⟨(some 43), .mv (.t 42), none, []⟩,
              ⟨(some 44), .mv (.t 8), (some (43, true)), []⟩,
              ⟨(some 45), .un .not (.t 44), (some (43, true)), []⟩,
              ⟨(some 46), .pick (.t 43) (.t 45) (.k (.bool false)), none, []⟩,
              ⟨(some 47), .mv (.t 46), none, []⟩,
              ⟨(some 48), .load true 5 (.t 7), (some (47, true)), []⟩,
              ⟨(some 49), .build [(.int .i64 0), (.slice none 0 0), (.slice none 0 0), (.slice none 0 0), (.slice none 0 0)] [], (some (47, true)), []⟩,
              ⟨(some 50), .qcall n_ref04_Same [(.t 48), (.t 49)] [], (some (47, true)), []⟩,
              ⟨(some 51), .pick (.t 47) (.t 50) (.k (.bool false)), none, []⟩,
              ⟨(some 4), .mv (.t 51), none, []⟩])
            (.ret i_law05_AvlDeletes_r))
           .skip))
         (.seq
          (.reg [] [
            ⟨(some 53), .load true 5 (.t 2), none, []⟩,
            ⟨(some 54), .cn (.t 1), none, []⟩,
            ⟨(some 55), .qcall n_ref05_Get [(.t 53), (.t 54)] [], none, []⟩,
            ⟨(some 52), .mv (.t 55), none, []⟩,
            ⟨(some 56), .ext 0 (.t 52), none, []⟩,
            ⟨(some 57), .ext 1 (.t 52), none, []⟩,
            ⟨(some 11), .cn (.t 56), none, []⟩,
            ⟨(some 12), .mv (.t 57), none, []⟩])
          (.seq
           (.reg [] [
             ⟨(some 58), .mv (.t 5), none, []⟩,
             ⟨(some 59), .mv (.t 58), none, []⟩,
             ⟨(some 60), .mv (.t 9), (some (59, true)), []⟩,
             ⟨(some 61), .bin (.iface ty_api_Code true) .eql (.t 60) (.k .nilIface), (some (59, true)), []⟩,
             ⟨(some 62), .pick (.t 59) (.t 61) (.k (.bool false)), none, []⟩,
             ⟨(some 63), .mv (.t 62), none, []⟩,
             ⟨(some 64), .mv (.t 8), (some (63, true)), []⟩,
             ⟨(some 65), .mv (.t 12), (some (63, true)), []⟩,
             ⟨(some 66), .bin .bool .eql (.t 64) (.t 65), (some (63, true)), []⟩,
             ⟨(some 67), .pick (.t 63) (.t 66) (.k (.bool false)), none, []⟩,
             ⟨(some 68), .mv (.t 67), none, []⟩,
             ⟨(some 69), .load true 5 (.t 7), (some (68, true)), []⟩,
             ⟨(some 70), .load true 5 (.t 2), (some (68, true)), []⟩,
             ⟨(some 71), .cn (.t 1), (some (68, true)), []⟩,
             ⟨(some 72), .qcall n_ref05_Delete [(.t 70), (.t 71)] [], (some (68, true)), []⟩,
             ⟨(some 73), .qcall n_ref04_Same [(.t 69), (.t 72)] [], (some (68, true)), []⟩,
             ⟨(some 74), .pick (.t 68) (.t 73) (.k (.bool false)), none, []⟩,
             ⟨(some 4), .mv (.t 74), none, []⟩])
           (.ret i_law05_AvlDeletes_r)))))))))),
  [.tmp 4], [], false, []⟩

def i_avl_Delete_r : List Bool := [false, false, false, false, true, true, true, false, false, false, false, false, false, false, false, false, false, false, false, false, false, false, false, false, false, false, false, false, false]
def i_avl_Delete_j0 : List Bool := [false, true, true, false, true, false, false, false, false, false, false, false, false, false, false, false, false, false, false, false, false, false, false, false, false, false, false, false, false]
/-- heartwood/avl.Delete -/
def i_avl_Delete : Ev.Fn := ⟨2, 29, 2,
  (.seq
   (.reg [] [
     ⟨(some 2), .box 0 5 (.t 0), none, []⟩,
     ⟨(some 4), .new 1 [(.int .i64 0), (.slice none 0 0), (.slice none 0 0), (.slice none 0 0), (.slice none 0 0)], none, []⟩,
     ⟨(some 5), .mv (.k (.bool false)), none, []⟩,
     ⟨(some 6), .mv (.k .nilIface), none, []⟩])
   (.seq
    (.reg [] [
      ⟨(some 11), .load true 5 (.t 2), none, []⟩,
      ⟨(some 12), .cn (.t 1), none, []⟩,
      ⟨(some 13), .qcall n_avl_Get [(.t 11), (.t 12)] [], none, []⟩,
      ⟨(some 10), .mv (.t 13), none, []⟩,
      ⟨(some 14), .ext 0 (.t 10), none, []⟩,
      ⟨(some 15), .ext 1 (.t 10), none, []⟩,
      ⟨(some 16), .ext 2 (.t 10), none, []⟩,
      ⟨(some 7), .cn (.t 14), none, []⟩,
      ⟨(some 8), .mv (.t 15), none, []⟩,
      ⟨(some 9), .mv (.t 16), none, []⟩])
    (.seq
     (.block 0 i_avl_Delete_j0
      (.seq
       (.reg [] [
         ⟨(some 18), .mv (.t 9), none, []⟩,
         ⟨(some 19), .bin (.iface ty_api_Code true) .neq (.t 18) (.k .nilIface), none, []⟩,
         ⟨(some 17), .mv (.t 19), none, []⟩])
       (.cond (.t 17)
        (.seq
         (.reg [] [
           ⟨(some 20), .build [(.int .i64 0), (.slice none 0 0), (.slice none 0 0), (.slice none 0 0), (.slice none 0 0)] [], none, []⟩,
           ⟨(some 21), .mv (.t 9), none, []⟩,
           ⟨none, .store 5 (.t 4) (.t 20), none, []⟩,
           ⟨(some 5), .mv (.k (.bool false)), none, []⟩,
           ⟨(some 6), .mv (.t 21), none, []⟩])
         (.ret i_avl_Delete_r))
        (.seq
         (.reg [] [
           ⟨(some 23), .mv (.t 8), none, []⟩,
           ⟨(some 24), .un .not (.t 23), none, []⟩,
           ⟨(some 22), .mv (.t 24), none, []⟩])
         (.cond (.t 22)
          (.seq
           (.reg [] [
             ⟨(some 25), .load true 5 (.t 2), none, []⟩,
             ⟨none, .store 5 (.t 4) (.t 25), none, []⟩,
             ⟨(some 5), .mv (.k (.bool false)), none, []⟩,
             ⟨(some 6), .mv (.k .nilIface), none, []⟩])
           (.ret i_avl_Delete_r))
          .skip)))))
     (.seq
      (.reg [] [
        ⟨(some 26), .load true 5 (.t 2), none, []⟩,
        ⟨(some 27), .cn (.t 1), none, []⟩,
        ⟨(some 28), .qcall n_avl_take [(.t 26), (.t 27)] [], none, []⟩,
        ⟨none, .store 5 (.t 4) (.t 28), none, []⟩,
        ⟨(some 5), .mv (.k (.bool true)), none, []⟩,
        ⟨(some 6), .mv (.k .nilIface), none, []⟩])
      (.ret i_avl_Delete_r))))),
  [.cell 4 true 5, .tmp 5, .tmp 6], [], false, []⟩

def i_avl_take_r : List Bool := [false, false, false, false, true, false, false, false, false, false, false, false, false, false, false, false, false, false, false, false, false, false, false, false, false, false, false, false, false, false, false, false, false, false, false, false, false, false, false, false, false, false, false, false, false, false, false, false, false, false, false, false, false, false, false, false, false, false, false, false, false, false, false, false, false, false, false, false, false, false, false, false, false, false, false, false, false, false, false, false, false, false, false, false, false, false, false]
def i_avl_take_j0 : List Bool := [false, false, false, false, true, true, true, false, false, false, false, false, false, false, false, false, false, false, false, false, false, false, false, false, false, false, false, false, false, false, false, false, false, false, false, false, false, false, false, false, false, false, false, false, false, false, false, false, false, false, false, false, false, false, false, false, false, false, false, false, false, false, false, false, false, false, false, false, false, false, false, false, false, false, false, false, false, false, false, false, false, false, false, false, false, false, false]
def i_avl_take_j2 : List Bool := [false, false, false, false, true, true, true, false, true, false, false, false, false, false, false, false, false, false, false, false, false, false, false, false, false, false, false, false, false, false, false, false, false, false, false, false, false, false, false, false, false, false, false, false, false, false, false, false, false, false, false, false, false, false, false, false, false, false, false, false, false, false, false, false, false, false, false, false, false, false, false, false, false, false, false, false, false, false, false, false, false, false, false, false, false, false, false]
def i_avl_take_k0 : List Bool := [false, false, false, false, true, true, true, false, true, false, false, false, false, false, false, false, false, false, false, false, false, false, false, false, false, false, false, false, false, false, false, false, false, false, false, false, false, false, false, false, false, false, false, false, false, false, false, false, false, false, false, false, false, false, false, false, false, false, false, false, false, false, false, false, false, false, false, false, false, false, false, false, false, false, false, false, false, false, false, false, false, false, false, false, false, false, false]
def i_avl_take_j1 : List Bool := [false, false, false, false, true, true, true, false, true, false, false, false, false, false, false, false, false, false, false, false, false, false, false, false, false, false, false, false, false, false, false, false, false, false, false, false, false, false, false, false, false, false, false, false, false, false, false, false, false, false, false, false, false, false, false, false, false, false, false, false, false, false, false, false, false, false, false, false, false, false, false, false, false, false, false, false, false, false, false, false, false, false, false, false, false, false, false]
abbrev s_avl_take_R (t4 : AV) (h : Heap) : St := ⟨[.undef, .undef, .undef, .undef, t4, .undef, .undef, .undef, .undef, .undef, .undef, .undef, .undef, .undef, .undef, .undef, .undef, .undef, .undef, .undef, .undef, .undef, .undef, .undef, .undef, .undef, .undef, .undef, .undef, .undef, .undef, .undef, .undef, .undef, .undef, .undef, .undef, .undef, .undef, .undef, .undef, .undef, .undef, .undef, .undef, .undef, .undef, .undef, .undef, .undef, .undef, .undef, .undef, .undef, .undef, .undef, .undef, .undef, .undef, .undef, .undef, .undef, .undef, .undef, .undef, .undef, .undef, .undef, .undef, .undef, .undef, .undef, .undef, .undef, .undef, .undef, .undef, .undef, .undef, .undef, .undef, .undef, .undef, .undef, .undef, .undef, .undef], h⟩
abbrev s_avl_take_K0 (t4 t5 t6 t8 : AV) (h : Heap) : St := ⟨[.undef, .undef, .undef, .undef, t4, t5, t6, .undef, t8, .undef, .undef, .undef, .undef, .undef, .undef, .undef, .undef, .undef, .undef, .undef, .undef, .undef, .undef, .undef, .undef, .undef, .undef, .undef, .undef, .undef, .undef, .undef, .undef, .undef, .undef, .undef, .undef, .undef, .undef, .undef, .undef, .undef, .undef, .undef, .undef, .undef, .undef, .undef, .undef, .undef, .undef, .undef, .undef, .undef, .undef, .undef, .undef, .undef, .undef, .undef, .undef, .undef, .undef, .undef, .undef, .undef, .undef, .undef, .undef, .undef, .undef, .undef, .undef, .undef, .undef, .undef, .undef, .undef, .undef, .undef, .undef, .undef, .undef, .undef, .undef, .undef, .undef], h⟩
def i_avl_take_b0 : IR :=
  (.seq
   (.seq
    (.reg [] [
      ⟨(some 65), .fa 4 (.t 8), none, []⟩,
      ⟨(some 66), .load false 1 (.t 65), none, []⟩,
      ⟨(some 67), .ia 5 (.t 66) (.k (.int .i64 0)), none, []⟩,
      ⟨(some 68), .fa 4 (.t 67), none, []⟩,
      ⟨(some 69), .load false 1 (.t 68), none, []⟩,
      ⟨(some 70), .len false (.t 69), none, []⟩,
      ⟨(some 71), .bin .plain .gtr (.t 70) (.k (.int .i64 0)), none, []⟩])
    (.cond (.t 71)
     .skip
     (.exit 1 i_avl_take_j1)))
   (.block 2 i_avl_take_j2
    (.reg [] [
      ⟨(some 72), .fa 4 (.t 8), none, []⟩,
      ⟨(some 73), .load false 1 (.t 72), none, []⟩,
      ⟨(some 74), .ia 5 (.t 73) (.k (.int .i64 0)), none, []⟩,
      ⟨(some 75), .load true 5 (.t 74), none, []⟩,
      ⟨none, .store 5 (.t 8) (.t 75), none, []⟩])))

abbrev s_avl_take_J1 (t4 t5 t6 t8 : AV) (h : Heap) : St := ⟨[.undef, .undef, .undef, .undef, t4, t5, t6, .undef, t8, .undef, .undef, .undef, .undef, .undef, .undef, .undef, .undef, .undef, .undef, .undef, .undef, .undef, .undef, .undef, .undef, .undef, .undef, .undef, .undef, .undef, .undef, .undef, .undef, .undef, .undef, .undef, .undef, .undef, .undef, .undef, .undef, .undef, .undef, .undef, .undef, .undef, .undef, .undef, .undef, .undef, .undef, .undef, .undef, .undef, .undef, .undef, .undef, .undef, .undef, .undef, .undef, .undef, .undef, .undef, .undef, .undef, .undef, .undef, .undef, .undef, .undef, .undef, .undef, .undef, .undef, .undef, .undef, .undef, .undef, .undef, .undef, .undef, .undef, .undef, .undef, .undef, .undef], h⟩
/-- heartwood/avl.take -/
def i_avl_take : Ev.Fn := ⟨2, 87, 5,
  (.seq
   (.reg [] [
     ⟨(some 2), .box 0 5 (.t 0), none, []⟩,
     ⟨(some 4), .new 1 [(.int .i64 0), (.slice none 0 0), (.slice none 0 0), (.slice none 0 0), (.slice none 0 0)], none, []⟩])
   (.seq
    (.seq
     (.reg [] [
       ⟨(some 9), .fa 4 (.t 2), none, []⟩,
       ⟨(some 10), .load false 1 (.t 9), none, []⟩,
       ⟨(some 11), .len false (.t 10), none, []⟩,
       ⟨(some 12), .bin .plain .eql (.t 11) (.k (.int .i64 0)), none, []⟩])
     (.cond (.t 12)
      (.seq
       (.reg [] [
         ⟨(some 13), .load true 5 (.t 2), none, []⟩,
         ⟨none, .store 5 (.t 4) (.t 13), none, []⟩])
       (.ret i_avl_take_r))
      .skip))
    (.seq
     (.reg [(1, 8), (2, 8), (3, 8), (5, 8), (6, 8), (7, 8), (1, 9), (2, 9), (3, 9), (5, 9), (6, 9), (7, 9), (8, 9), (5, 10), (6, 10), (7, 10)] [
       ⟨(some 14), .fa 4 (.t 2), none, []⟩,
       ⟨(some 15), .load false 1 (.t 14), none, []⟩,
       ⟨(some 16), .ia 5 (.t 15) (.k (.int .i64 0)), none, []⟩,
       ⟨(some 17), .load true 5 (.t 16), none, []⟩,
       ⟨(some 18), .fa 4 (.t 2), none, []⟩,
       ⟨(some 19), .load false 1 (.t 18), none, []⟩,
       ⟨(some 20), .ia 5 (.t 19) (.k (.int .i64 1)), none, []⟩,
       ⟨(some 21), .load true 5 (.t 20), none, []⟩,
       ⟨(some 5), .new 2 [(.int .i64 0), (.slice none 0 0), (.slice none 0 0), (.slice none 0 0), (.slice none 0 0)], none, []⟩,
       ⟨(some 6), .new 3 [(.int .i64 0), (.slice none 0 0), (.slice none 0 0), (.slice none 0 0), (.slice none 0 0)], none, []⟩,
       ⟨none, .store 5 (.t 5) (.t 17), none, []⟩,
       ⟨none, .store 5 (.t 6) (.t 21), none, []⟩])
     (.seq
      (.seq
       (.reg [] [
         ⟨(some 22), .cn (.t 1), none, []⟩,
         ⟨(some 23), .fa 1 (.t 2), none, []⟩,
         ⟨(some 24), .load false 1 (.t 23), none, []⟩,
         ⟨(some 25), .qcall n_bytes_Compare [(.t 22), (.t 24)] [], none, []⟩,
         ⟨(some 7), .mv (.t 25), none, []⟩])
       (.block 0 i_avl_take_j0
        (.seq
         (.reg [] [
           ⟨(some 27), .mv (.t 7), none, []⟩,
           ⟨(some 28), .bin .plain .lss (.t 27) (.k (.int .i64 0)), none, []⟩,
           ⟨(some 26), .mv (.t 28), none, []⟩])
         (.cond (.t 26)
          (.seq
           (.reg [] [
             ⟨(some 29), .load true 5 (.t 5), none, []⟩,
             ⟨(some 30), .cn (.t 1), none, []⟩,
             ⟨(some 31), .qcall n_avl_take [(.t 29), (.t 30)] [], none, []⟩,
             ⟨(some 32), .fa 1 (.t 2), none, []⟩,
             ⟨(some 33), .load false 1 (.t 32), none, []⟩,
             ⟨(some 34), .fa 2 (.t 2), none, []⟩,
             ⟨(some 35), .load false 1 (.t 34), none, []⟩,
             ⟨(some 36), .load true 5 (.t 6), none, []⟩,
             ⟨(some 37), .qcall n_avl_node [(.t 31), (.t 33), (.t 35), (.t 36)] [], none, []⟩,
             ⟨(some 38), .qcall n_avl_leveled [(.t 37)] [], none, []⟩,
             ⟨none, .store 5 (.t 4) (.t 38), none, []⟩])
           (.ret i_avl_take_r))
          (.seq
           (.reg [] [
             ⟨(some 40), .mv (.t 7), none, []⟩,
             ⟨(some 41), .bin .plain .gtr (.t 40) (.k (.int .i64 0)), none, []⟩,
             ⟨(some 39), .mv (.t 41), none, []⟩])
           (.cond (.t 39)
            (.seq
             (.reg [] [
               ⟨(some 42), .load true 5 (.t 5), none, []⟩,
               ⟨(some 43), .fa 1 (.t 2), none, []⟩,
               ⟨(some 44), .load false 1 (.t 43), none, []⟩,
               ⟨(some 45), .fa 2 (.t 2), none, []⟩,
               ⟨(some 46), .load false 1 (.t 45), none, []⟩,
               ⟨(some 47), .load true 5 (.t 6), none, []⟩,
               ⟨(some 48), .cn (.t 1), none, []⟩,
               ⟨(some 49), .qcall n_avl_take [(.t 47), (.t 48)] [], none, []⟩,
               ⟨(some 50), .qcall n_avl_node [(.t 42), (.t 44), (.t 46), (.t 49)] [], none, []⟩,
               ⟨(some 51), .qcall n_avl_leveled [(.t 50)] [], none, []⟩,
               ⟨none, .store 5 (.t 4) (.t 51), none, []⟩])
             (.ret i_avl_take_r))
            (.seq
             (.reg [] [
               ⟨(some 53), .fa 4 (.t 5), none, []⟩,
               ⟨(some 54), .load false 1 (.t 53), none, []⟩,
               ⟨(some 55), .len false (.t 54), none, []⟩,
               ⟨(some 56), .bin .plain .eql (.t 55) (.k (.int .i64 0)), none, []⟩,
               ⟨(some 52), .mv (.t 56), none, []⟩])
             (.cond (.t 52)
              (.seq
               (.reg [] [
                 ⟨(some 57), .load true 5 (.t 6), none, []⟩,
                 ⟨none, .store 5 (.t 4) (.t 57), none, []⟩])
               (.ret i_avl_take_r))
              (.seq
               (.reg [] [
                 ⟨(some 59), .fa 4 (.t 6), none, []⟩,
                 ⟨(some 60), .load false 1 (.t 59), none, []⟩,
                 ⟨(some 61), .len false (.t 60), none, []⟩,
                 ⟨(some 62), .bin .plain .eql (.t 61) (.k (.int .i64 0)), none, []⟩,
                 ⟨(some 58), .mv (.t 62), none, []⟩])
               (.cond (.t 58)
                (.seq
                 (.reg [] [
                   ⟨(some 63), .load true 5 (.t 5), none, []⟩,
                   ⟨none, .store 5 (.t 4) (.t 63), none, []⟩])
                 (.ret i_avl_take_r))
                .skip))))))))))
      (.seq
       (.reg [] [
         ⟨(some 64), .load true 5 (.t 6), none, []⟩,
         ⟨(some 8), .new 4 [(.int .i64 0), (.slice none 0 0), (.slice none 0 0), (.slice none 0 0), (.slice none 0 0)], none, []⟩,
         ⟨none, .store 5 (.t 8) (.t 64), none, []⟩])
       (.seq
        (.block 1 i_avl_take_j1
         (.loop i_avl_take_k0 i_avl_take_b0))
        (.seq
         (.reg [] [
           ⟨(some 76), .load true 5 (.t 5), none, []⟩,
           ⟨(some 77), .fa 1 (.t 8), none, []⟩,
           ⟨(some 78), .load false 1 (.t 77), none, []⟩,
           ⟨(some 79), .fa 2 (.t 8), none, []⟩,
           ⟨(some 80), .load false 1 (.t 79), none, []⟩,
           ⟨(some 81), .load true 5 (.t 6), none, []⟩,
           ⟨(some 82), .fa 1 (.t 8), none, []⟩,
           ⟨(some 83), .load false 1 (.t 82), none, []⟩,
           ⟨(some 84), .qcall n_avl_take [(.t 81), (.t 83)] [], none, []⟩,
           ⟨(some 85), .qcall n_avl_node [(.t 76), (.t 78), (.t 80), (.t 84)] [], none, []⟩,
           ⟨(some 86), .qcall n_avl_leveled [(.t 85)] [], none, []⟩,
           ⟨none, .store 5 (.t 4) (.t 86), none, []⟩])
         (.ret i_avl_take_r)))))))),
  [.cell 4 true 5], [], false, []⟩

def i_ref05_Delete_r : List Bool := [false, false, false, false, true, false, false, false, false, false, false, false, false, false, false, false, false, false, false, false, false, false, false, false, false, false, false, false, false, false, false, false, false, false, false, false, false, false, false, false, false, false, false, false, false, false, false, false, false, false, false, false, false, false, false, false, false, false, false, false, false, false, false, false, false, false, false, false, false, false, false, false, false, false, false, false, false, false]
/-- heartwood/heartwoodref05.Delete -/
def i_ref05_Delete : Ev.Fn := ⟨2, 78, 5,
  (.seq
   (.reg [] [
     ⟨(some 2), .box 0 5 (.t 0), none, []⟩,
     ⟨(some 4), .new 1 [(.int .i64 0), (.slice none 0 0), (.slice none 0 0), (.slice none 0 0), (.slice none 0 0)], none, []⟩])
   (.seq
    (.seq
     (.reg [] [
       ⟨(some 8), .fa 4 (.t 2), none, []⟩,
       ⟨(some 9), .load false 1 (.t 8), none, []⟩,
       ⟨(some 10), .len false (.t 9), none, []⟩,
       ⟨(some 11), .bin .plain .eql (.t 10) (.k (.int .i64 0)), none, []⟩])
     (.cond (.t 11)
      (.seq
       (.reg [] [
         ⟨(some 12), .load true 5 (.t 2), none, []⟩,
         ⟨none, .store 5 (.t 4) (.t 12), none, []⟩])
       (.ret i_ref05_Delete_r))
      .skip))
    (.seq
     (.reg [] [
       ⟨(some 13), .fa 4 (.t 2), none, []⟩,
       ⟨(some 14), .load false 1 (.t 13), none, []⟩,
       ⟨(some 15), .ia 5 (.t 14) (.k (.int .i64 0)), none, []⟩,
       ⟨(some 16), .load true 5 (.t 15), none, []⟩,
       ⟨(some 5), .new 2 [(.int .i64 0), (.slice none 0 0), (.slice none 0 0), (.slice none 0 0), (.slice none 0 0)], none, []⟩,
       ⟨none, .store 5 (.t 5) (.t 16), none, []⟩])
     (.seq
      (.reg [] [
        ⟨(some 17), .fa 4 (.t 2), none, []⟩,
        ⟨(some 18), .load false 1 (.t 17), none, []⟩,
        ⟨(some 19), .ia 5 (.t 18) (.k (.int .i64 1)), none, []⟩,
        ⟨(some 20), .load true 5 (.t 19), none, []⟩,
        ⟨(some 6), .new 3 [(.int .i64 0), (.slice none 0 0), (.slice none 0 0), (.slice none 0 0), (.slice none 0 0)], none, []⟩,
        ⟨none, .store 5 (.t 6) (.t 20), none, []⟩])
      (.seq
       (.seq
        (.reg [] [
          ⟨(some 21), .cn (.t 1), none, []⟩,
          ⟨(some 22), .b2s (.t 21), none, []⟩,
          ⟨(some 23), .fa 1 (.t 2), none, []⟩,
          ⟨(some 24), .load false 1 (.t 23), none, []⟩,
          ⟨(some 25), .b2s (.t 24), none, []⟩,
          ⟨(some 26), .bin .plain .lss (.t 22) (.t 25), none, []⟩])
        (.cond (.t 26)
         (.seq
          (.reg [] [
            ⟨(some 27), .load true 5 (.t 5), none, []⟩,
            ⟨(some 28), .cn (.t 1), none, []⟩,
            ⟨(some 29), .qcall n_ref05_Delete [(.t 27), (.t 28)] [], none, []⟩,
            ⟨(some 30), .fa 1 (.t 2), none, []⟩,
            ⟨(some 31), .load false 1 (.t 30), none, []⟩,
            ⟨(some 32), .fa 2 (.t 2), none, []⟩,
            ⟨(some 33), .load false 1 (.t 32), none, []⟩,
            ⟨(some 34), .load true 5 (.t 6), none, []⟩,
            ⟨(some 35), .qcall n_ref05_Node [(.t 29), (.t 31), (.t 33), (.t 34)] [], none, []⟩,
            ⟨(some 36), .qcall n_ref05_level [(.t 35)] [], none, []⟩,
            ⟨none, .store 5 (.t 4) (.t 36), none, []⟩])
          (.ret i_ref05_Delete_r))
         .skip))
       (.seq
        (.seq
         (.reg [] [
           ⟨(some 37), .cn (.t 1), none, []⟩,
           ⟨(some 38), .b2s (.t 37), none, []⟩,
           ⟨(some 39), .fa 1 (.t 2), none, []⟩,
           ⟨(some 40), .load false 1 (.t 39), none, []⟩,
           ⟨(some 41), .b2s (.t 40), none, []⟩,
           ⟨(some 42), .bin .plain .gtr (.t 38) (.t 41), none, []⟩])
         (.cond (.t 42)
          (.seq
           (.reg [] [
             ⟨(some 43), .load true 5 (.t 5), none, []⟩,
             ⟨(some 44), .fa 1 (.t 2), none, []⟩,
             ⟨(some 45), .load false 1 (.t 44), none, []⟩,
             ⟨(some 46), .fa 2 (.t 2), none, []⟩,
             ⟨(some 47), .load false 1 (.t 46), none, []⟩,
             ⟨(some 48), .load true 5 (.t 6), none, []⟩,
             ⟨(some 49), .cn (.t 1), none, []⟩,
             ⟨(some 50), .qcall n_ref05_Delete [(.t 48), (.t 49)] [], none, []⟩,
             ⟨(some 51), .qcall n_ref05_Node [(.t 43), (.t 45), (.t 47), (.t 50)] [], none, []⟩,
             ⟨(some 52), .qcall n_ref05_level [(.t 51)] [], none, []⟩,
             ⟨none, .store 5 (.t 4) (.t 52), none, []⟩])
           (.ret i_ref05_Delete_r))
          .skip))
        (.seq
         (.seq
          (.reg [] [
            ⟨(some 53), .fa 4 (.t 5), none, []⟩,
            ⟨(some 54), .load false 1 (.t 53), none, []⟩,
            ⟨(some 55), .len false (.t 54), none, []⟩,
            ⟨(some 56), .bin .plain .eql (.t 55) (.k (.int .i64 0)), none, []⟩])
          (.cond (.t 56)
           (.seq
            (.reg [] [
              ⟨(some 57), .load true 5 (.t 6), none, []⟩,
              ⟨none, .store 5 (.t 4) (.t 57), none, []⟩])
            (.ret i_ref05_Delete_r))
           .skip))
         (.seq
          (.seq
           (.reg [] [
             ⟨(some 58), .fa 4 (.t 6), none, []⟩,
             ⟨(some 59), .load false 1 (.t 58), none, []⟩,
             ⟨(some 60), .len false (.t 59), none, []⟩,
             ⟨(some 61), .bin .plain .eql (.t 60) (.k (.int .i64 0)), none, []⟩])
           (.cond (.t 61)
            (.seq
             (.reg [] [
               ⟨(some 62), .load true 5 (.t 5), none, []⟩,
               ⟨none, .store 5 (.t 4) (.t 62), none, []⟩])
             (.ret i_ref05_Delete_r))
            .skip))
          (.seq
           (.reg [] [
             ⟨(some 63), .load true 5 (.t 6), none, []⟩,
             ⟨(some 64), .qcall n_ref04_List [(.t 63)] [], none, []⟩,
             ⟨(some 65), .ia 5 (.t 64) (.k (.int .i64 0)), none, []⟩,
             ⟨(some 66), .load true 5 (.t 65), none, []⟩,
             ⟨(some 7), .new 4 [(.int .i64 0), (.slice none 0 0), (.slice none 0 0), (.slice none 0 0), (.slice none 0 0)], none, []⟩,
             ⟨none, .store 5 (.t 7) (.t 66), none, []⟩])
           (.seq
            (.reg [] [
              ⟨(some 67), .load true 5 (.t 5), none, []⟩,
              ⟨(some 68), .fa 1 (.t 7), none, []⟩,
              ⟨(some 69), .load false 1 (.t 68), none, []⟩,
              ⟨(some 70), .fa 2 (.t 7), none, []⟩,
              ⟨(some 71), .load false 1 (.t 70), none, []⟩,
              ⟨(some 72), .load true 5 (.t 6), none, []⟩,
              ⟨(some 73), .fa 1 (.t 7), none, []⟩,
              ⟨(some 74), .load false 1 (.t 73), none, []⟩,
              ⟨(some 75), .qcall n_ref05_Delete [(.t 72), (.t 74)] [], none, []⟩,
              ⟨(some 76), .qcall n_ref05_Node [(.t 67), (.t 69), (.t 71), (.t 75)] [], none, []⟩,
              ⟨(some 77), .qcall n_ref05_level [(.t 76)] [], none, []⟩,
              ⟨none, .store 5 (.t 4) (.t 77), none, []⟩])
            (.ret i_ref05_Delete_r))))))))))),
  [.cell 4 true 5], [], false, []⟩

def i_law05_AvlHolds_r : List Bool := [false, false, true, false, false, false, false, false, false, false, false, false, false, false, false, false, false, false, false, false, false, false, false, false, false, false, false, false, false, false, false, false, false, false, false, false, false, false, false, false, false, false, false, false, false, false, false, false, false, false, false, false, false, false, false, false, false, false, false, false, false, false, false, false, false, false, false, false, false, false, false, false, false, false, false, false, false, false, false, false, false, false, false, false, false, false, false, false, false, false, false, false, false, false, false, false, false, false, false, false, false, false, false, false, false, false, false, false, false, false, false, false, false, false, false, false, false, false, false, false, false, false, false, false, false, false, false, false, false, false, false, false, false, false, false, false, false, false, false, false, false, false, false, false, false, false, false, false, false, false, false, false, false, false]
def i_law05_AvlHolds_j3 : List Bool := [true, false, false, true, true, true, true, true, true, true, true, false, false, false, false, false, false, false, false, false, false, false, false, false, false, false, false, false, false, false, false, false, false, false, false, false, false, false, false, false, false, false, false, false, false, false, false, false, false, false, false, false, false, false, false, false, false, false, false, false, false, false, false, false, false, false, false, false, false, false, false, false, false, false, false, false, false, false, false, false, false, false, false, false, false, false, false, false, false, false, false, false, false, false, false, false, false, false, false, false, false, false, false, false, false, false, false, false, false, false, false, false, false, false, false, false, false, false, false, false, false, false, false, false, false, false, false, false, false, false, false, false, false, false, false, false, false, false, false, false, false, false, false, false, false, false, false, false, false, false, false, false, false, false]
def i_law05_AvlHolds_k1 : List Bool := [true, false, false, true, true, true, true, true, true, true, true, false, false, false, false, false, false, false, false, false, false, false, false, false, false, false, false, false, false, false, false, false, false, false, false, false, false, false, false, false, false, false, false, false, false, false, false, false, false, false, false, false, false, false, false, false, false, false, false, false, false, false, false, false, false, false, false, false, false, false, false, false, false, false, false, false, false, false, false, false, false, false, false, false, false, false, false, false, false, false, false, false, false, false, false, false, false, false, false, false, false, false, false, false, false, false, false, false, false, false, false, false, false, false, false, false, false, false, false, false, false, false, false, false, false, false, false, false, false, false, false, false, false, false, false, false, false, false, false, false, false, false, false, false, false, false, false, false, false, false, false, false, false, false]
def i_law05_AvlHolds_j2 : List Bool := [true, false, false, true, true, false, true, true, true, true, false, false, false, false, false, false, false, false, false, false, false, false, false, false, false, false, false, false, false, false, false, false, false, false, false, false, false, false, false, false, false, false, false, false, false, false, false, false, false, false, false, false, false, false, false, false, false, false, false, false, false, false, false, false, false, false, false, false, false, false, false, false, false, false, false, false, false, false, false, false, false, false, false, false, false, false, false, false, false, false, false, false, false, false, false, false, false, false, false, false, false, false, false, false, false, false, false, false, false, false, false, false, false, false, false, false, false, false, false, false, false, false, false, false, false, false, false, false, false, false, false, false, false, false, false, false, false, false, false, false, false, false, false, false, false, false, false, false, false, false, false, false, false, false]
def i_law05_AvlHolds_j1 : List Bool := [true, false, false, true, true, true, true, false, false, false, false, false, false, false, false, false, false, false, false, false, false, false, false, false, false, false, false, false, false, false, false, false, false, false, false, false, false, false, false, false, false, false, false, false, false, false, false, false, false, false, false, false, false, false, false, false, false, false, false, false, false, false, false, false, false, false, false, false, false, false, false, false, false, false, false, false, false, false, false, false, false, false, false, false, false, false, false, false, false, false, false, false, false, false, false, false, false, false, false, false, false, false, false, false, false, false, false, false, false, false, false, false, false, false, false, false, false, false, false, false, false, false, false, false, false, false, false, false, false, false, false, false, false, false, false, false, false, false, false, false, false, false, false, false, false, false, false, false, false, false, false, false, false, false]
def i_law05_AvlHolds_k0 : List Bool := [true, false, false, true, true, true, true, false, false, false, false, false, false, false, false, false, false, false, false, false, false, false, false, false, false, false, false, false, false, false, false, false, false, false, false, false, false, false, false, false, false, false, false, false, false, false, false, false, false, false, false, false, false, false, false, false, false, false, false, false, false, false, false, false, false, false, false, false, false, false, false, false, false, false, false, false, false, false, false, false, false, false, false, false, false, false, false, false, false, false, false, false, false, false, false, false, false, false, false, false, false, false, false, false, false, false, false, false, false, false, false, false, false, false, false, false, false, false, false, false, false, false, false, false, false, false, false, false, false, false, false, false, false, false, false, false, false, false, false, false, false, false, false, false, false, false, false, false, false, false, false, false, false, false]
def i_law05_AvlHolds_j0 : List Bool := [false, false, false, true, true, true, false, false, false, false, false, false, false, false, false, false, false, false, false, false, false, false, false, false, false, false, false, false, false, false, false, false, false, false, false, false, false, false, false, false, false, false, false, false, false, false, false, false, false, false, false, false, false, false, false, false, false, false, false, false, false, false, false, false, false, false, false, false, false, false, false, false, false, false, false, false, false, false, false, false, false, false, false, false, false, false, false, false, false, false, false, false, false, false, false, false, false, false, false, false, false, false, false, false, false, false, false, false, false, false, false, false, false, false, false, false, false, false, false, false, false, false, false, false, false, false, false, false, false, false, false, false, false, false, false, false, false, false, false, false, false, false, false, false, false, false, false, false, false, false, false, false, false, false]
def i_law05_AvlHolds_j5 : List Bool := [false, false, false, true, true, true, false, false, false, false, false, false, false, false, false, false, true, false, false, false, false, false, false, false, false, false, false, false, false, false, false, false, false, false, false, false, false, false, false, false, false, false, false, false, false, false, false, false, false, false, false, false, false, false, false, false, false, false, false, false, false, false, false, false, false, false, false, false, false, false, false, false, false, false, false, false, false, false, false, false, false, false, false, false, false, false, false, false, false, false, false, false, false, false, false, false, false, false, false, false, false, false, false, false, false, false, false, false, false, false, false, false, false, false, false, false, false, false, false, false, false, false, false, false, false, false, false, false, false, false, false, false, false, false, false, false, false, false, false, false, false, false, false, false, false, false, false, false, false, false, false, false, false, false]
def i_law05_AvlHolds_k2 : List Bool := [false, false, false, true, true, true, false, false, false, false, false, false, false, false, false, false, true, false, false, false, false, false, false, false, false, false, false, false, false, false, false, false, false, false, false, false, false, false, false, false, false, false, false, false, false, false, false, false, false, false, false, false, false, false, false, false, false, false, false, false, false, false, false, false, false, false, false, false, false, false, false, false, false, false, false, false, false, false, false, false, false, false, false, false, false, false, false, false, false, false, false, false, false, false, false, false, false, false, false, false, false, false, false, false, false, false, false, false, false, false, false, false, false, false, false, false, false, false, false, false, false, false, false, false, false, false, false, false, false, false, false, false, false, false, false, false, false, false, false, false, false, false, false, false, false, false, false, false, false, false, false, false, false, false]
def i_law05_AvlHolds_j4 : List Bool := [false, false, false, true, false, false, false, false, false, false, false, false, false, false, false, false, false, false, false, false, false, false, false, false, false, false, false, false, false, false, false, false, false, false, false, false, false, false, false, false, false, false, false, false, false, false, false, false, false, false, false, false, false, false, false, false, false, false, false, false, false, false, false, false, false, false, false, false, false, false, false, false, false, false, false, false, false, false, false, false, false, false, false, false, false, false, false, false, false, false, false, false, false, false, false, false, false, false, false, false, false, false, false, false, false, false, false, false, false, false, false, false, false, false, false, false, false, false, false, false, false, false, false, false, false, false, false, false, false, false, false, false, false, false, false, false, false, false, false, false, false, false, false, false, false, false, false, false, false, false, false, false, false, false]
abbrev s_law05_AvlHolds_R (t2 : AV) (h : Heap) : St := ⟨[.undef, .undef, t2, .undef, .undef, .undef, .undef, .undef, .undef, .undef, .undef, .undef, .undef, .undef, .undef, .undef, .undef, .undef, .undef, .undef, .undef, .undef, .undef, .undef, .undef, .undef, .undef, .undef, .undef, .undef, .undef, .undef, .undef, .undef, .undef, .undef, .undef, .undef, .undef, .undef, .undef, .undef, .undef, .undef, .undef, .undef, .undef, .undef, .undef, .undef, .undef, .undef, .undef, .undef, .undef, .undef, .undef, .undef, .undef, .undef, .undef, .undef, .undef, .undef, .undef, .undef, .undef, .undef, .undef, .undef, .undef, .undef, .undef, .undef, .undef, .undef, .undef, .undef, .undef, .undef, .undef, .undef, .undef, .undef, .undef, .undef, .undef, .undef, .undef, .undef, .undef, .undef, .undef, .undef, .undef, .undef, .undef, .undef, .undef, .undef, .undef, .undef, .undef, .undef, .undef, .undef, .undef, .undef, .undef, .undef, .undef, .undef, .undef, .undef, .undef, .undef, .undef, .undef, .undef, .undef, .undef, .undef, .undef, .undef, .undef, .undef, .undef, .undef, .undef, .undef, .undef, .undef, .undef, .undef, .undef, .undef, .undef, .undef, .undef, .undef, .undef, .undef, .undef, .undef, .undef, .undef, .undef, .undef, .undef, .undef, .undef, .undef, .undef, .undef], h⟩
abbrev s_law05_AvlHolds_K1 (t0 t3 t4 t5 t6 t7 t8 t9 t10 : AV) (h : Heap) : St := ⟨[t0, .undef, .undef, t3, t4, t5, t6, t7, t8, t9, t10, .undef, .undef, .undef, .undef, .undef, .undef, .undef, .undef, .undef, .undef, .undef, .undef, .undef, .undef, .undef, .undef, .undef, .undef, .undef, .undef, .undef, .undef, .undef, .undef, .undef, .undef, .undef, .undef, .undef, .undef, .undef, .undef, .undef, .undef, .undef, .undef, .undef, .undef, .undef, .undef, .undef, .undef, .undef, .undef, .undef, .undef, .undef, .undef, .undef, .undef, .undef, .undef, .undef, .undef, .undef, .undef, .undef, .undef, .undef, .undef, .undef, .undef, .undef, .undef, .undef, .undef, .undef, .undef, .undef, .undef, .undef, .undef, .undef, .undef, .undef, .undef, .undef, .undef, .undef, .undef, .undef, .undef, .undef, .undef, .undef, .undef, .undef, .undef, .undef, .undef, .undef, .undef, .undef, .undef, .undef, .undef, .undef, .undef, .undef, .undef, .undef, .undef, .undef, .undef, .undef, .undef, .undef, .undef, .undef, .undef, .undef, .undef, .undef, .undef, .undef, .undef, .undef, .undef, .undef, .undef, .undef, .undef, .undef, .undef, .undef, .undef, .undef, .undef, .undef, .undef, .undef, .undef, .undef, .undef, .undef, .undef, .undef, .undef, .undef, .undef, .undef, .undef, .undef], h⟩
def i_law05_AvlHolds_b1 : IR :=
  (.seq
   (.seq
    (.reg [] [
      ⟨(some 46), .mv (.t 10), none, []⟩,
      ⟨(some 47), .cn (.t 5), none, []⟩,
      ⟨(some 48), .len false (.t 47), none, []⟩,
      ⟨(some 49), .bin .plain .lss (.t 46) (.t 48), none, []⟩])
    (.cond (.t 49)
     .skip
     (.exit 2 i_law05_AvlHolds_j2)))
   (.seq
    (.block 3 i_law05_AvlHolds_j3
     (.seq
      (.reg [] [
        ⟨(some 52), .cn (.t 5), none, []⟩,
        ⟨(some 53), .mv (.t 10), none, []⟩,
        ⟨(some 54), .ia 2 (.t 52) (.t 53), none, []⟩,
        ⟨(some 55), .fa 0 (.t 54), none, []⟩,
        ⟨(some 56), .load false 1 (.t 55), none, []⟩,
        ⟨(some 57), .b2s (.t 56), none, []⟩,
        ⟨(some 58), .fa 0 (.t 7), none, []⟩,
        ⟨(some 59), .load false 1 (.t 58), none, []⟩,
        ⟨(some 60), .b2s (.t 59), none, []⟩,
        ⟨(some 61), .bin .plain .eql (.t 57) (.t 60), none, []⟩])
      (.cond (.t 61)
       (.reg [] [
         ⟨(some 9), .mv (.k (.bool true)), none, []⟩])
       (.reg [] [
         ⟨(some 62), .mv (.t 8), none, []⟩,
         ⟨(some 63), .cn (.t 5), none, []⟩,
         ⟨(some 64), .mv (.t 10), none, []⟩,
         ⟨(some 65), .ia 2 (.t 63) (.t 64), none, []⟩,
         ⟨(some 66), .load true 2 (.t 65), none, []⟩,
         ⟨(some 67), .litd 2 1 [(.slice none 0 0), (.slice none 0 0)] [(0, (.t 66))], none, []⟩,
         ⟨(some 68), .app 2 ty_api_Pair 2 48 (.t 62) (.t 67), none, []⟩,
         ⟨(some 8), .mv (.t 68), none, []⟩]))))
    (.reg [] [
      ⟨(some 50), .mv (.t 10), none, []⟩,
      ⟨(some 51), .bin .plain .add (.t 50) (.k (.int .i64 1)), none, []⟩,
      ⟨(some 10), .mv (.t 51), none, []⟩])))

abbrev s_law05_AvlHolds_J2 (t0 t3 t4 t6 t7 t8 t9 : AV) (h : Heap) : St := ⟨[t0, .undef, .undef, t3, t4, .undef, t6, t7, t8, t9, .undef, .undef, .undef, .undef, .undef, .undef, .undef, .undef, .undef, .undef, .undef, .undef, .undef, .undef, .undef, .undef, .undef, .undef, .undef, .undef, .undef, .undef, .undef, .undef, .undef, .undef, .undef, .undef, .undef, .undef, .undef, .undef, .undef, .undef, .undef, .undef, .undef, .undef, .undef, .undef, .undef, .undef, .undef, .undef, .undef, .undef, .undef, .undef, .undef, .undef, .undef, .undef, .undef, .undef, .undef, .undef, .undef, .undef, .undef, .undef, .undef, .undef, .undef, .undef, .undef, .undef, .undef, .undef, .undef, .undef, .undef, .undef, .undef, .undef, .undef, .undef, .undef, .undef, .undef, .undef, .undef, .undef, .undef, .undef, .undef, .undef, .undef, .undef, .undef, .undef, .undef, .undef, .undef, .undef, .undef, .undef, .undef, .undef, .undef, .undef, .undef, .undef, .undef, .undef, .undef, .undef, .undef, .undef, .undef, .undef, .undef, .undef, .undef, .undef, .undef, .undef, .undef, .undef, .undef, .undef, .undef, .undef, .undef, .undef, .undef, .undef, .undef, .undef, .undef, .undef, .undef, .undef, .undef, .undef, .undef, .undef, .undef, .undef, .undef, .undef, .undef, .undef, .undef, .undef], h⟩
abbrev s_law05_AvlHolds_J1 (t0 t3 t4 t5 t6 : AV) (h : Heap) : St := ⟨[t0, .undef, .undef, t3, t4, t5, t6, .undef, .undef, .undef, .undef, .undef, .undef, .undef, .undef, .undef, .undef, .undef, .undef, .undef, .undef, .undef, .undef, .undef, .undef, .undef, .undef, .undef, .undef, .undef, .undef, .undef, .undef, .undef, .undef, .undef, .undef, .undef, .undef, .undef, .undef, .undef, .undef, .undef, .undef, .undef, .undef, .undef, .undef, .undef, .undef, .undef, .undef, .undef, .undef, .undef, .undef, .undef, .undef, .undef, .undef, .undef, .undef, .undef, .undef, .undef, .undef, .undef, .undef, .undef, .undef, .undef, .undef, .undef, .undef, .undef, .undef, .undef, .undef, .undef, .undef, .undef, .undef, .undef, .undef, .undef, .undef, .undef, .undef, .undef, .undef, .undef, .undef, .undef, .undef, .undef, .undef, .undef, .undef, .undef, .undef, .undef, .undef, .undef, .undef, .undef, .undef, .undef, .undef, .undef, .undef, .undef, .undef, .undef, .undef, .undef, .undef, .undef, .undef, .undef, .undef, .undef, .undef, .undef, .undef, .undef, .undef, .undef, .undef, .undef, .undef, .undef, .undef, .undef, .undef, .undef, .undef, .undef, .undef, .undef, .undef, .undef, .undef, .undef, .undef, .undef, .undef, .undef, .undef, .undef, .undef, .undef, .undef, .undef], h⟩
abbrev s_law05_AvlHolds_K0 (t0 t3 t4 t5 t6 : AV) (h : Heap) : St := ⟨[t0, .undef, .undef, t3, t4, t5, t6, .undef, .undef, .undef, .undef, .undef, .undef, .undef, .undef, .undef, .undef, .undef, .undef, .undef, .undef, .undef, .undef, .undef, .undef, .undef, .undef, .undef, .undef, .undef, .undef, .undef, .undef, .undef, .undef, .undef, .undef, .undef, .undef, .undef, .undef, .undef, .undef, .undef, .undef, .undef, .undef, .undef, .undef, .undef, .undef, .undef, .undef, .undef, .undef, .undef, .undef, .undef, .undef, .undef, .undef, .undef, .undef, .undef, .undef, .undef, .undef, .undef, .undef, .undef, .undef, .undef, .undef, .undef, .undef, .undef, .undef, .undef, .undef, .undef, .undef, .undef, .undef, .undef, .undef, .undef, .undef, .undef, .undef, .undef, .undef, .undef, .undef, .undef, .undef, .undef, .undef, .undef, .undef, .undef, .undef, .undef, .undef, .undef, .undef, .undef, .undef, .undef, .undef, .undef, .undef, .undef, .undef, .undef, .undef, .undef, .undef, .undef, .undef, .undef, .undef, .undef, .undef, .undef, .undef, .undef, .undef, .undef, .undef, .undef, .undef, .undef, .undef, .undef, .undef, .undef, .undef, .undef, .undef, .undef, .undef, .undef, .undef, .undef, .undef, .undef, .undef, .undef, .undef, .undef, .undef, .undef, .undef, .undef], h⟩
def i_law05_AvlHolds_b0 : IR :=
  (.seq
   (.seq
    (.reg [] [
      ⟨(some 22), .mv (.t 6), none, []⟩,
      ⟨(some 23), .cn (.t 0), none, []⟩,
      ⟨(some 24), .len false (.t 23), none, []⟩,
      ⟨(some 25), .bin .plain .lss (.t 22) (.t 24), none, []⟩,
      ⟨(some 26), .mv (.t 25), none, []⟩,
      ⟨(some 27), .mv (.t 6), (some (26, true)), []⟩,
      ⟨(some 28), .bin .plain .lss (.t 27) (.k (.int .i64 40)), (some (26, true)), []⟩,
      ⟨(some 29), .pick (.t 26) (.t 28) (.k (.bool false)), none, []⟩])
    (.cond (.t 29)
     .skip
     (.exit 0 i_law05_AvlHolds_j0)))
   (.seq
    (.block 1 i_law05_AvlHolds_j1
     (.seq
      (.reg [] [
        ⟨(some 32), .cn (.t 0), none, []⟩,
        ⟨(some 33), .mv (.t 6), none, []⟩,
        ⟨(some 34), .ia 3 (.t 32) (.t 33), none, []⟩,
        ⟨(some 35), .load true 3 (.t 34), none, []⟩,
        ⟨(some 7), .new 1 [(.slice none 0 0), (.slice none 0 0), (.bool false)], none, []⟩,
        ⟨none, .store 3 (.t 7) (.t 35), none, []⟩])
      (.seq
       (.seq
        (.reg [] [
          ⟨(some 36), .fa 0 (.t 7), none, []⟩,
          ⟨(some 37), .load false 1 (.t 36), none, []⟩,
          ⟨(some 38), .len false (.t 37), none, []⟩,
          ⟨(some 39), .bin .plain .gtr (.t 38) (.k (.int .i64 80)), none, []⟩,
          ⟨(some 40), .mv (.t 39), none, []⟩,
          ⟨(some 41), .fa 1 (.t 7), (some (40, false)), []⟩,
          ⟨(some 42), .load false 1 (.t 41), (some (40, false)), []⟩,
          ⟨(some 43), .len false (.t 42), (some (40, false)), []⟩,
          ⟨(some 44), .bin .plain .gtr (.t 43) (.k (.int .i64 1024)), (some (40, false)), []⟩,
          ⟨(some 45), .pick (.t 40) (.k (.bool true)) (.t 44), none, []⟩])
        (.cond (.t 45)
         (.exit 1 i_law05_AvlHolds_j1)
         .skip))
       (.seq
        (.reg [] [
          ⟨(some 8), .mv (.k (.slice none 0 0)), none, []⟩])
        (.seq
         (.reg [] [
           ⟨(some 9), .mv (.k (.bool false)), none, []⟩])
         (.seq
          (.seq
           (.reg [] [
             ⟨(some 10), .mv (.k (.int .i64 0)), none, []⟩])
           (.block 2 i_law05_AvlHolds_j2
            (.loop i_law05_AvlHolds_k1 i_law05_AvlHolds_b1)))
          (.seq
           (.seq
            (.reg [] [
              ⟨(some 69), .fa 2 (.t 7), none, []⟩,
              ⟨(some 70), .load false 1 (.t 69), none, []⟩])
            (.cond (.t 70)
             (.seq
              (.reg [] [
                ⟨(some 72), .load true 5 (.t 4), none, []⟩,
                ⟨(some 73), .fa 0 (.t 7), none, []⟩,
                ⟨(some 74), .load false 1 (.t 73), none, []⟩,
                ⟨(some 75), .qcall n_avl_Delete [(.t 72), (.t 74)] [], none, []⟩,
                ⟨(some 71), .mv (.t 75), none, []⟩,
                ⟨(some 76), .ext 0 (.t 71), none, []⟩,
                ⟨(some 77), .ext 1 (.t 71), none, []⟩,
                ⟨(some 78), .ext 2 (.t 71), none, []⟩,
                ⟨(some 11), .new 3 [(.int .i64 0), (.slice none 0 0), (.slice none 0 0), (.slice none 0 0), (.slice none 0 0)], none, []⟩,
                ⟨none, .store 5 (.t 11) (.t 76), none, []⟩,
                ⟨(some 12), .mv (.t 77), none, []⟩,
                ⟨(some 13), .mv (.t 78), none, []⟩])
              (.seq
               (.seq
                (.reg [] [
                  ⟨(some 79), .mv (.t 13), none, []⟩,
                  ⟨(some 80), .bin (.iface ty_api_Code true) .neq (.t 79) (.k .nilIface), none, []⟩,
                  ⟨(some 81), .mv (.t 80), none, []⟩,
                  ⟨(some 82), .mv (.t 12), (some (81, false)), []⟩,
                  ⟨(some 83), .mv (.t 9), (some (81, false)), []⟩,
                  ⟨(some 84), .bin .bool .neq (.t 82) (.t 83), (some (81, false)), []⟩,
                  ⟨(some 85), .pick (.t 81) (.k (.bool true)) (.t 84), none, []⟩])
                (.cond (.t 85)
                 (.seq
                  (.reg [] [
                    ⟨(some 2), .mv (.k (.bool false)), none, []⟩])
                  (.ret i_law05_AvlHolds_r))
                 .skip))
               (.reg [] [
                 ⟨(some 86), .load true 5 (.t 11), none, []⟩,
                 ⟨none, .store 5 (.t 4) (.t 86), none, []⟩])))
             (.seq
              (.reg [] [
                ⟨(some 88), .load true 5 (.t 4), none, []⟩,
                ⟨(some 89), .fa 0 (.t 7), none, []⟩,
                ⟨(some 90), .load false 1 (.t 89), none, []⟩,
                ⟨(some 91), .fa 1 (.t 7), none, []⟩,
                ⟨(some 92), .load false 1 (.t 91), none, []⟩,
                ⟨(some 93), .qcall n_avl_Put [(.t 88), (.t 90), (.t 92)] [], none, []⟩,
                ⟨(some 87), .mv (.t 93), none, []⟩,
                ⟨(some 94), .ext 0 (.t 87), none, []⟩,
                ⟨(some 95), .ext 1 (.t 87), none, []⟩,
                ⟨(some 14), .new 4 [(.int .i64 0), (.slice none 0 0), (.slice none 0 0), (.slice none 0 0), (.slice none 0 0)], none, []⟩,
                ⟨none, .store 5 (.t 14) (.t 94), none, []⟩,
                ⟨(some 15), .mv (.t 95), none, []⟩])
              (.seq
               (.seq
                (.reg [] [
                  ⟨(some 96), .mv (.t 15), none, []⟩,
                  ⟨(some 97), .bin (.iface ty_api_Code true) .neq (.t 96) (.k .nilIface), none, []⟩])
                (.cond (.t 97)
                 (.seq
                  (.reg [] [
                    ⟨(some 2), .mv (.k (.bool false)), none, []⟩])
                  (.ret i_law05_AvlHolds_r))
                 .skip))
               (.seq
                (.reg [] [
                  ⟨(some 98), .load true 5 (.t 14), none, []⟩,
                  ⟨none, .store 5 (.t 4) (.t 98), none, []⟩])
                (.reg [] [
                  ⟨(some 99), .mv (.t 8), none, []⟩,
                  ⟨(some 100), .fa 0 (.t 7), none, []⟩,
                  ⟨(some 101), .load false 1 (.t 100), none, []⟩,
                  ⟨(some 102), .fa 1 (.t 7), none, []⟩,
                  ⟨(some 103), .load false 1 (.t 102), none, []⟩,
                  ⟨(some 104), .build [(.slice none 0 0), (.slice none 0 0)] [(0, 1, (.t 101)), (1, 1, (.t 103))], none, []⟩,
                  ⟨(some 105), .litd 2 1 [(.slice none 0 0), (.slice none 0 0)] [(0, (.t 104))], none, []⟩,
                  ⟨(some 106), .app 2 ty_api_Pair 2 48 (.t 99) (.t 105), none, []⟩,
                  ⟨(some 8), .mv (.t 106), none, []⟩]))))))
           (.reg [] [
             ⟨(some 107), .cn (.t 8), none, [8]⟩,
             ⟨(some 5), .cn (.t 107), none, [107]⟩]))))))))
    (.reg [] [
      ⟨(some 30), .mv (.t 6), none, []⟩,
      ⟨(some 31), .bin .plain .add (.t 30) (.k (.int .i64 1)), none, []⟩,
      ⟨(some 6), .mv (.t 31), none, []⟩])))

abbrev s_law05_AvlHolds_J0 (t3 t4 t5 : AV) (h : Heap) : St := ⟨[.undef, .undef, .undef, t3, t4, t5, .undef, .undef, .undef, .undef, .undef, .undef, .undef, .undef, .undef, .undef, .undef, .undef, .undef, .undef, .undef, .undef, .undef, .undef, .undef, .undef, .undef, .undef, .undef, .undef, .undef, .undef, .undef, .undef, .undef, .undef, .undef, .undef, .undef, .undef, .undef, .undef, .undef, .undef, .undef, .undef, .undef, .undef, .undef, .undef, .undef, .undef, .undef, .undef, .undef, .undef, .undef, .undef, .undef, .undef, .undef, .undef, .undef, .undef, .undef, .undef, .undef, .undef, .undef, .undef, .undef, .undef, .undef, .undef, .undef, .undef, .undef, .undef, .undef, .undef, .undef, .undef, .undef, .undef, .undef, .undef, .undef, .undef, .undef, .undef, .undef, .undef, .undef, .undef, .undef, .undef, .undef, .undef, .undef, .undef, .undef, .undef, .undef, .undef, .undef, .undef, .undef, .undef, .undef, .undef, .undef, .undef, .undef, .undef, .undef, .undef, .undef, .undef, .undef, .undef, .undef, .undef, .undef, .undef, .undef, .undef, .undef, .undef, .undef, .undef, .undef, .undef, .undef, .undef, .undef, .undef, .undef, .undef, .undef, .undef, .undef, .undef, .undef, .undef, .undef, .undef, .undef, .undef, .undef, .undef, .undef, .undef, .undef, .undef], h⟩
abbrev s_law05_AvlHolds_K2 (t3 t4 t5 t16 : AV) (h : Heap) : St := ⟨[.undef, .undef, .undef, t3, t4, t5, .undef, .undef, .undef, .undef, .undef, .undef, .undef, .undef, .undef, .undef, t16, .undef, .undef, .undef, .undef, .undef, .undef, .undef, .undef, .undef, .undef, .undef, .undef, .undef, .undef, .undef, .undef, .undef, .undef, .undef, .undef, .undef, .undef, .undef, .undef, .undef, .undef, .undef, .undef, .undef, .undef, .undef, .undef, .undef, .undef, .undef, .undef, .undef, .undef, .undef, .undef, .undef, .undef, .undef, .undef, .undef, .undef, .undef, .undef, .undef, .undef, .undef, .undef, .undef, .undef, .undef, .undef, .undef, .undef, .undef, .undef, .undef, .undef, .undef, .undef, .undef, .undef, .undef, .undef, .undef, .undef, .undef, .undef, .undef, .undef, .undef, .undef, .undef, .undef, .undef, .undef, .undef, .undef, .undef, .undef, .undef, .undef, .undef, .undef, .undef, .undef, .undef, .undef, .undef, .undef, .undef, .undef, .undef, .undef, .undef, .undef, .undef, .undef, .undef, .undef, .undef, .undef, .undef, .undef, .undef, .undef, .undef, .undef, .undef, .undef, .undef, .undef, .undef, .undef, .undef, .undef, .undef, .undef, .undef, .undef, .undef, .undef, .undef, .undef, .undef, .undef, .undef, .undef, .undef, .undef, .undef, .undef, .undef], h⟩
def i_law05_AvlHolds_b2 : IR :=
  (.seq
   (.seq
    (.reg [] [
      ⟨(some 119), .mv (.t 16), none, []⟩,
      ⟨(some 120), .cn (.t 5), none, []⟩,
      ⟨(some 121), .len false (.t 120), none, []⟩,
      ⟨(some 122), .bin .plain .lss (.t 119) (.t 121), none, []⟩])
    (.cond (.t 122)
     .skip
     (.exit 4 i_law05_AvlHolds_j4)))
   (.seq
    (.block 5 i_law05_AvlHolds_j5
     (.seq
      (.reg [] [
        ⟨(some 126), .load true 5 (.t 4), none, []⟩,
        ⟨(some 127), .cn (.t 5), none, []⟩,
        ⟨(some 128), .mv (.t 16), none, []⟩,
        ⟨(some 129), .ia 2 (.t 127) (.t 128), none, []⟩,
        ⟨(some 130), .fa 0 (.t 129), none, []⟩,
        ⟨(some 131), .load false 1 (.t 130), none, []⟩,
        ⟨(some 132), .qcall n_avl_Get [(.t 126), (.t 131)] [], none, []⟩,
        ⟨(some 125), .mv (.t 132), none, []⟩,
        ⟨(some 133), .ext 0 (.t 125), none, []⟩,
        ⟨(some 134), .ext 1 (.t 125), none, []⟩,
        ⟨(some 135), .ext 2 (.t 125), none, []⟩,
        ⟨(some 17), .cn (.t 133), none, []⟩,
        ⟨(some 18), .mv (.t 134), none, []⟩,
        ⟨(some 19), .mv (.t 135), none, []⟩])
      (.seq
       (.reg [] [
         ⟨(some 136), .mv (.t 19), none, []⟩,
         ⟨(some 137), .bin (.iface ty_api_Code true) .neq (.t 136) (.k .nilIface), none, []⟩,
         ⟨(some 138), .mv (.t 137), none, []⟩,
         ⟨(some 139), .mv (.t 18), (some (138, false)), []⟩,
         ⟨(some 140), .un .not (.t 139), (some (138, false)), []⟩,
         ⟨(some 141), .pick (.t 138) (.k (.bool true)) (.t 140), none, []⟩,
         ⟨(some 142), .mv (.t 141), none, []⟩,
         ⟨(some 143), .cn (.t 17), (some (142, false)), []⟩,
         ⟨(some 144), .b2s (.t 143), (some (142, false)), []⟩,
         ⟨(some 145), .cn (.t 5), (some (142, false)), []⟩,
         ⟨(some 146), .mv (.t 16), (some (142, false)), []⟩,
         ⟨(some 147), .ia 2 (.t 145) (.t 146), (some (142, false)), []⟩,
         ⟨(some 148), .fa 1 (.t 147), (some (142, false)), []⟩,
         ⟨(some 149), .load false 1 (.t 148), (some (142, false)), []⟩,
         ⟨(some 150), .b2s (.t 149), (some (142, false)), []⟩,
         ⟨(some 151), .bin .plain .neq (.t 144) (.t 150), (some (142, false)), []⟩,
         ⟨(some 152), .pick (.t 142) (.k (.bool true)) (.t 151), none, []⟩])
       (.cond (.t 152)
        (.seq
         (.reg [] [
           ⟨(some 2), .mv (.k (.bool false)), none, []⟩])
         (.ret i_law05_AvlHolds_r))
        .skip))))
    (.reg [] [
      ⟨(some 123), .mv (.t 16), none, []⟩,
      ⟨(some 124), .bin .plain .add (.t 123) (.k (.int .i64 1)), none, []⟩,
      ⟨(some 16), .mv (.t 124), none, []⟩])))

abbrev s_law05_AvlHolds_J4 (t3 : AV) (h : Heap) : St := ⟨[.undef, .undef, .undef, t3, .undef, .undef, .undef, .undef, .undef, .undef, .undef, .undef, .undef, .undef, .undef, .undef, .undef, .undef, .undef, .undef, .undef, .undef, .undef, .undef, .undef, .undef, .undef, .undef, .undef, .undef, .undef, .undef, .undef, .undef, .undef, .undef, .undef, .undef, .undef, .undef, .undef, .undef, .undef, .undef, .undef, .undef, .undef, .undef, .undef, .undef, .undef, .undef, .undef, .undef, .undef, .undef, .undef, .undef, .undef, .undef, .undef, .undef, .undef, .undef, .undef, .undef, .undef, .undef, .undef, .undef, .undef, .undef, .undef, .undef, .undef, .undef, .undef, .undef, .undef, .undef, .undef, .undef, .undef, .undef, .undef, .undef, .undef, .undef, .undef, .undef, .undef, .undef, .undef, .undef, .undef, .undef, .undef, .undef, .undef, .undef, .undef, .undef, .undef, .undef, .undef, .undef, .undef, .undef, .undef, .undef, .undef, .undef, .undef, .undef, .undef, .undef, .undef, .undef, .undef, .undef, .undef, .undef, .undef, .undef, .undef, .undef, .undef, .undef, .undef, .undef, .undef, .undef, .undef, .undef, .undef, .undef, .undef, .undef, .undef, .undef, .undef, .undef, .undef, .undef, .undef, .undef, .undef, .undef, .undef, .undef, .undef, .undef, .undef, .undef], h⟩
/-- heartwood/heartwoodlaw05.AvlHolds -/
def i_law05_AvlHolds : Ev.Fn := ⟨1, 154, 5,
  (.seq
   (.reg [] [
     ⟨(some 2), .mv (.k (.bool false)), none, []⟩])
   (.seq
    (.reg [] [
      ⟨(some 20), .qcall n_law05_up [] [], none, []⟩,
      ⟨(some 3), .mv (.t 20), none, []⟩])
    (.seq
     (.reg [] [
       ⟨(some 21), .build [(.int .i64 0), (.slice none 0 0), (.slice none 0 0), (.slice none 0 0), (.slice none 0 0)] [], none, []⟩,
       ⟨(some 4), .new 0 [(.int .i64 0), (.slice none 0 0), (.slice none 0 0), (.slice none 0 0), (.slice none 0 0)], none, []⟩,
       ⟨none, .store 5 (.t 4) (.t 21), none, []⟩])
     (.seq
      (.reg [] [
        ⟨(some 5), .cn (.k (.slice none 0 0)), none, []⟩])
      (.seq
       (.seq
        (.reg [] [
          ⟨(some 6), .mv (.k (.int .i64 0)), none, []⟩])
        (.block 0 i_law05_AvlHolds_j0
         (.loop i_law05_AvlHolds_k0 i_law05_AvlHolds_b0)))
       (.seq
        (.seq
         (.reg [] [
           ⟨(some 108), .load true 5 (.t 4), none, []⟩,
           ⟨(some 109), .qcall n_avl_Is [(.t 108)] [], none, []⟩,
           ⟨(some 110), .un .not (.t 109), none, []⟩,
           ⟨(some 111), .mv (.t 110), none, []⟩,
           ⟨(some 112), .load true 5 (.t 4), (some (111, false)), []⟩,
           ⟨(some 113), .qcall n_ref04_List [(.t 112)] [], (some (111, false)), []⟩,
           ⟨(some 114), .len false (.t 113), (some (111, false)), []⟩,
           ⟨(some 115), .cn (.t 5), (some (111, false)), []⟩,
           ⟨(some 116), .len false (.t 115), (some (111, false)), []⟩,
           ⟨(some 117), .bin .plain .neq (.t 114) (.t 116), (some (111, false)), []⟩,
           ⟨(some 118), .pick (.t 111) (.k (.bool true)) (.t 117), none, []⟩])
         (.cond (.t 118)
          (.seq
           (.reg [] [
             ⟨(some 2), .mv (.k (.bool false)), none, []⟩])
           (.ret i_law05_AvlHolds_r))
          .skip))
        (.seq
         (.seq
          (.reg [] [
            ⟨(some 16), .mv (.k (.int .i64 0)), none, []⟩])
          (.block 4 i_law05_AvlHolds_j4
           (.loop i_law05_AvlHolds_k2 i_law05_AvlHolds_b2)))
         (.seq
          (.reg [] [
            ⟨(some 153), .mv (.t 3), none, []⟩,
            ⟨(some 2), .mv (.t 153), none, []⟩])
          (.ret i_law05_AvlHolds_r))))))))),
  [.tmp 2], [], false, []⟩

def tab (f : Nat) : Option Ev.Fn := match f with
  | 6 => some i_law06_ScanRanges
  | 18 => some i_law06_up
  | 20 => some i_scan_In
  | 52 => some i_bytes_Compare
  | 24 => some i_ref04_Light
  | 25 => some i_scan_Range
  | 35 => some i_avl_Is
  | 57 => some i_tree_Full
  | 63 => some i_tree_Check
  | 86 => some i_tree_deep
  | 99 => some i_tree_deep_1
  | 94 => some i_slices_ContainsFunc_sl_api_Tree_api_Tree
  | 104 => some i_slices_IndexFunc_sl_api_Tree_api_Tree
  | 87 => some i_tree_formed
  | 100 => some i_tree_formed_1
  | 80 => some i_tree_full
  | 95 => some i_tree_full_1
  | 53 => some i_tree_List
  | 77 => some i_tree_List_1
  | 58 => some i_avl_even
  | 50 => some i_slices_Clone_sl_byte_byte
  | 26 => some i_ref05_Is
  | 54 => some i_ref04_Check
  | 78 => some i_ref04_Deep
  | 79 => some i_ref04_Formed
  | 55 => some i_ref04_Full
  | 49 => some i_ref04_List
  | 56 => some i_ref04_Depth
  | 28 => some i_ref06_Range
  | 21 => some i_ref06_In
  | 27 => some i_ref06_Same
  | 9 => some i_law05_AvlIs
  | 33 => some i_law05_up
  | 39 => some i_avl_Put
  | 59 => some i_avl_asked
  | 60 => some i_avl_put
  | 81 => some i_avl_node
  | 82 => some i_avl_leveled
  | 96 => some i_avl_depth
  | 97 => some i_avl_left
  | 98 => some i_avl_right
  | 36 => some i_avl_Get
  | 34 => some i_law05_small
  | 10 => some i_law05_AvlGets
  | 37 => some i_law05_asked
  | 38 => some i_law00_Code
  | 32 => some i_ref05_Get
  | 11 => some i_law05_AvlPuts
  | 31 => some i_ref04_Same
  | 40 => some i_ref05_Put
  | 61 => some i_ref05_Node
  | 62 => some i_ref05_level
  | 83 => some i_ref05_tilt
  | 84 => some i_ref05_left
  | 85 => some i_ref05_right
  | 12 => some i_law10_CodeWrites
  | 41 => some i_law10_up
  | 43 => some i_code_Write
  | 64 => some i_code_long
  | 65 => some i_code_write
  | 88 => some i_coder_Bytes
  | 101 => some i_coder_Number
  | 45 => some i_code_Read
  | 68 => some i_coder_NewReader
  | 69 => some i_code_Read_1
  | 70 => some i_coder_Reader_Byte
  | 90 => some i_coder_Reader_take
  | 71 => some i_coder_Reader_Bytes
  | 91 => some i_coder_Reader_Number
  | 72 => some i_coder_Reader_End
  | 42 => some i_law10_small
  | 44 => some i_ref10_Write
  | 66 => some i_ref10_long
  | 67 => some i_ref10_bytes
  | 89 => some i_ref02_Bytes
  | 102 => some i_ref02_Number
  | 13 => some i_law10_CodeReads
  | 46 => some i_ref10_Read
  | 73 => some i_ref10_read
  | 92 => some i_ref02_Reader_Byte
  | 93 => some i_ref02_Reader_Bytes
  | 103 => some i_ref02_Reader_Number
  | 74 => some i_ref02_Reader_End
  | 14 => some i_law10_CodeBack
  | 16 => some i_law05_AvlDeletes
  | 47 => some i_avl_Delete
  | 75 => some i_avl_take
  | 48 => some i_ref05_Delete
  | 17 => some i_law05_AvlHolds
  | _ => none
theorem t_law06_ScanRanges : tab n_law06_ScanRanges = some i_law06_ScanRanges := rfl
theorem t_law06_up : tab n_law06_up = some i_law06_up := rfl
theorem t_scan_In : tab n_scan_In = some i_scan_In := rfl
theorem t_bytes_Compare : tab n_bytes_Compare = some i_bytes_Compare := rfl
theorem t_ref04_Light : tab n_ref04_Light = some i_ref04_Light := rfl
theorem t_scan_Range : tab n_scan_Range = some i_scan_Range := rfl
theorem t_avl_Is : tab n_avl_Is = some i_avl_Is := rfl
theorem t_tree_Full : tab n_tree_Full = some i_tree_Full := rfl
theorem t_tree_Check : tab n_tree_Check = some i_tree_Check := rfl
theorem t_tree_deep : tab n_tree_deep = some i_tree_deep := rfl
theorem t_tree_deep_1 : tab n_tree_deep_1 = some i_tree_deep_1 := rfl
theorem t_slices_ContainsFunc_sl_api_Tree_api_Tree : tab n_slices_ContainsFunc_sl_api_Tree_api_Tree = some i_slices_ContainsFunc_sl_api_Tree_api_Tree := rfl
theorem t_slices_IndexFunc_sl_api_Tree_api_Tree : tab n_slices_IndexFunc_sl_api_Tree_api_Tree = some i_slices_IndexFunc_sl_api_Tree_api_Tree := rfl
theorem t_tree_formed : tab n_tree_formed = some i_tree_formed := rfl
theorem t_tree_formed_1 : tab n_tree_formed_1 = some i_tree_formed_1 := rfl
theorem t_tree_full : tab n_tree_full = some i_tree_full := rfl
theorem t_tree_full_1 : tab n_tree_full_1 = some i_tree_full_1 := rfl
theorem t_tree_List : tab n_tree_List = some i_tree_List := rfl
theorem t_tree_List_1 : tab n_tree_List_1 = some i_tree_List_1 := rfl
theorem t_avl_even : tab n_avl_even = some i_avl_even := rfl
theorem t_slices_Clone_sl_byte_byte : tab n_slices_Clone_sl_byte_byte = some i_slices_Clone_sl_byte_byte := rfl
theorem t_ref05_Is : tab n_ref05_Is = some i_ref05_Is := rfl
theorem t_ref04_Check : tab n_ref04_Check = some i_ref04_Check := rfl
theorem t_ref04_Deep : tab n_ref04_Deep = some i_ref04_Deep := rfl
theorem t_ref04_Formed : tab n_ref04_Formed = some i_ref04_Formed := rfl
theorem t_ref04_Full : tab n_ref04_Full = some i_ref04_Full := rfl
theorem t_ref04_List : tab n_ref04_List = some i_ref04_List := rfl
theorem t_ref04_Depth : tab n_ref04_Depth = some i_ref04_Depth := rfl
theorem t_ref06_Range : tab n_ref06_Range = some i_ref06_Range := rfl
theorem t_ref06_In : tab n_ref06_In = some i_ref06_In := rfl
theorem t_ref06_Same : tab n_ref06_Same = some i_ref06_Same := rfl
theorem t_law05_AvlIs : tab n_law05_AvlIs = some i_law05_AvlIs := rfl
theorem t_law05_up : tab n_law05_up = some i_law05_up := rfl
theorem t_avl_Put : tab n_avl_Put = some i_avl_Put := rfl
theorem t_avl_asked : tab n_avl_asked = some i_avl_asked := rfl
theorem t_avl_put : tab n_avl_put = some i_avl_put := rfl
theorem t_avl_node : tab n_avl_node = some i_avl_node := rfl
theorem t_avl_leveled : tab n_avl_leveled = some i_avl_leveled := rfl
theorem t_avl_depth : tab n_avl_depth = some i_avl_depth := rfl
theorem t_avl_left : tab n_avl_left = some i_avl_left := rfl
theorem t_avl_right : tab n_avl_right = some i_avl_right := rfl
theorem t_avl_Get : tab n_avl_Get = some i_avl_Get := rfl
theorem t_law05_small : tab n_law05_small = some i_law05_small := rfl
theorem t_law05_AvlGets : tab n_law05_AvlGets = some i_law05_AvlGets := rfl
theorem t_law05_asked : tab n_law05_asked = some i_law05_asked := rfl
theorem t_law00_Code : tab n_law00_Code = some i_law00_Code := rfl
theorem t_ref05_Get : tab n_ref05_Get = some i_ref05_Get := rfl
theorem t_law05_AvlPuts : tab n_law05_AvlPuts = some i_law05_AvlPuts := rfl
theorem t_ref04_Same : tab n_ref04_Same = some i_ref04_Same := rfl
theorem t_ref05_Put : tab n_ref05_Put = some i_ref05_Put := rfl
theorem t_ref05_Node : tab n_ref05_Node = some i_ref05_Node := rfl
theorem t_ref05_level : tab n_ref05_level = some i_ref05_level := rfl
theorem t_ref05_tilt : tab n_ref05_tilt = some i_ref05_tilt := rfl
theorem t_ref05_left : tab n_ref05_left = some i_ref05_left := rfl
theorem t_ref05_right : tab n_ref05_right = some i_ref05_right := rfl
theorem t_law10_CodeWrites : tab n_law10_CodeWrites = some i_law10_CodeWrites := rfl
theorem t_law10_up : tab n_law10_up = some i_law10_up := rfl
theorem t_code_Write : tab n_code_Write = some i_code_Write := rfl
theorem t_code_long : tab n_code_long = some i_code_long := rfl
theorem t_code_write : tab n_code_write = some i_code_write := rfl
theorem t_coder_Bytes : tab n_coder_Bytes = some i_coder_Bytes := rfl
theorem t_coder_Number : tab n_coder_Number = some i_coder_Number := rfl
theorem t_code_Read : tab n_code_Read = some i_code_Read := rfl
theorem t_coder_NewReader : tab n_coder_NewReader = some i_coder_NewReader := rfl
theorem t_code_Read_1 : tab n_code_Read_1 = some i_code_Read_1 := rfl
theorem t_coder_Reader_Byte : tab n_coder_Reader_Byte = some i_coder_Reader_Byte := rfl
theorem t_coder_Reader_take : tab n_coder_Reader_take = some i_coder_Reader_take := rfl
theorem t_coder_Reader_Bytes : tab n_coder_Reader_Bytes = some i_coder_Reader_Bytes := rfl
theorem t_coder_Reader_Number : tab n_coder_Reader_Number = some i_coder_Reader_Number := rfl
theorem t_coder_Reader_End : tab n_coder_Reader_End = some i_coder_Reader_End := rfl
theorem t_law10_small : tab n_law10_small = some i_law10_small := rfl
theorem t_ref10_Write : tab n_ref10_Write = some i_ref10_Write := rfl
theorem t_ref10_long : tab n_ref10_long = some i_ref10_long := rfl
theorem t_ref10_bytes : tab n_ref10_bytes = some i_ref10_bytes := rfl
theorem t_ref02_Bytes : tab n_ref02_Bytes = some i_ref02_Bytes := rfl
theorem t_ref02_Number : tab n_ref02_Number = some i_ref02_Number := rfl
theorem t_law10_CodeReads : tab n_law10_CodeReads = some i_law10_CodeReads := rfl
theorem t_ref10_Read : tab n_ref10_Read = some i_ref10_Read := rfl
theorem t_ref10_read : tab n_ref10_read = some i_ref10_read := rfl
theorem t_ref02_Reader_Byte : tab n_ref02_Reader_Byte = some i_ref02_Reader_Byte := rfl
theorem t_ref02_Reader_Bytes : tab n_ref02_Reader_Bytes = some i_ref02_Reader_Bytes := rfl
theorem t_ref02_Reader_Number : tab n_ref02_Reader_Number = some i_ref02_Reader_Number := rfl
theorem t_ref02_Reader_End : tab n_ref02_Reader_End = some i_ref02_Reader_End := rfl
theorem t_law10_CodeBack : tab n_law10_CodeBack = some i_law10_CodeBack := rfl
theorem t_law05_AvlDeletes : tab n_law05_AvlDeletes = some i_law05_AvlDeletes := rfl
theorem t_avl_Delete : tab n_avl_Delete = some i_avl_Delete := rfl
theorem t_avl_take : tab n_avl_take = some i_avl_take := rfl
theorem t_ref05_Delete : tab n_ref05_Delete = some i_ref05_Delete := rfl
theorem t_law05_AvlHolds : tab n_law05_AvlHolds = some i_law05_AvlHolds := rfl
def G0 : Cf := ⟨fun _ => [], true⟩
theorem G0_gf : G0.gf = true := rfl
attribute [go_sem] G0_gf
theorem lt_law06_ScanRanges : (n_law06_ScanRanges < 1000000) = True := eq_true (by decide)
attribute [go_sem] lt_law06_ScanRanges
theorem lt_law06_up : (n_law06_up < 1000000) = True := eq_true (by decide)
attribute [go_sem] lt_law06_up
theorem lt_scan_In : (n_scan_In < 1000000) = True := eq_true (by decide)
attribute [go_sem] lt_scan_In
theorem lt_bytes_Compare : (n_bytes_Compare < 1000000) = True := eq_true (by decide)
attribute [go_sem] lt_bytes_Compare
theorem lt_ref04_Light : (n_ref04_Light < 1000000) = True := eq_true (by decide)
attribute [go_sem] lt_ref04_Light
theorem lt_scan_Range : (n_scan_Range < 1000000) = True := eq_true (by decide)
attribute [go_sem] lt_scan_Range
theorem lt_avl_Is : (n_avl_Is < 1000000) = True := eq_true (by decide)
attribute [go_sem] lt_avl_Is
theorem lt_tree_Full : (n_tree_Full < 1000000) = True := eq_true (by decide)
attribute [go_sem] lt_tree_Full
theorem lt_tree_Check : (n_tree_Check < 1000000) = True := eq_true (by decide)
attribute [go_sem] lt_tree_Check
theorem lt_tree_deep : (n_tree_deep < 1000000) = True := eq_true (by decide)
attribute [go_sem] lt_tree_deep
theorem lt_tree_deep_1 : (n_tree_deep_1 < 1000000) = True := eq_true (by decide)
attribute [go_sem] lt_tree_deep_1
theorem lt_slices_ContainsFunc_sl_api_Tree_api_Tree : (n_slices_ContainsFunc_sl_api_Tree_api_Tree < 1000000) = True := eq_true (by decide)
attribute [go_sem] lt_slices_ContainsFunc_sl_api_Tree_api_Tree
theorem lt_slices_IndexFunc_sl_api_Tree_api_Tree : (n_slices_IndexFunc_sl_api_Tree_api_Tree < 1000000) = True := eq_true (by decide)
attribute [go_sem] lt_slices_IndexFunc_sl_api_Tree_api_Tree
theorem lt_tree_formed : (n_tree_formed < 1000000) = True := eq_true (by decide)
attribute [go_sem] lt_tree_formed
theorem lt_tree_formed_1 : (n_tree_formed_1 < 1000000) = True := eq_true (by decide)
attribute [go_sem] lt_tree_formed_1
theorem lt_tree_full : (n_tree_full < 1000000) = True := eq_true (by decide)
attribute [go_sem] lt_tree_full
theorem lt_tree_full_1 : (n_tree_full_1 < 1000000) = True := eq_true (by decide)
attribute [go_sem] lt_tree_full_1
theorem lt_tree_List : (n_tree_List < 1000000) = True := eq_true (by decide)
attribute [go_sem] lt_tree_List
theorem lt_tree_List_1 : (n_tree_List_1 < 1000000) = True := eq_true (by decide)
attribute [go_sem] lt_tree_List_1
theorem lt_avl_even : (n_avl_even < 1000000) = True := eq_true (by decide)
attribute [go_sem] lt_avl_even
theorem lt_slices_Clone_sl_byte_byte : (n_slices_Clone_sl_byte_byte < 1000000) = True := eq_true (by decide)
attribute [go_sem] lt_slices_Clone_sl_byte_byte
theorem lt_ref05_Is : (n_ref05_Is < 1000000) = True := eq_true (by decide)
attribute [go_sem] lt_ref05_Is
theorem lt_ref04_Check : (n_ref04_Check < 1000000) = True := eq_true (by decide)
attribute [go_sem] lt_ref04_Check
theorem lt_ref04_Deep : (n_ref04_Deep < 1000000) = True := eq_true (by decide)
attribute [go_sem] lt_ref04_Deep
theorem lt_ref04_Formed : (n_ref04_Formed < 1000000) = True := eq_true (by decide)
attribute [go_sem] lt_ref04_Formed
theorem lt_ref04_Full : (n_ref04_Full < 1000000) = True := eq_true (by decide)
attribute [go_sem] lt_ref04_Full
theorem lt_ref04_List : (n_ref04_List < 1000000) = True := eq_true (by decide)
attribute [go_sem] lt_ref04_List
theorem lt_ref04_Depth : (n_ref04_Depth < 1000000) = True := eq_true (by decide)
attribute [go_sem] lt_ref04_Depth
theorem lt_ref06_Range : (n_ref06_Range < 1000000) = True := eq_true (by decide)
attribute [go_sem] lt_ref06_Range
theorem lt_ref06_In : (n_ref06_In < 1000000) = True := eq_true (by decide)
attribute [go_sem] lt_ref06_In
theorem lt_ref06_Same : (n_ref06_Same < 1000000) = True := eq_true (by decide)
attribute [go_sem] lt_ref06_Same
theorem lt_law05_AvlIs : (n_law05_AvlIs < 1000000) = True := eq_true (by decide)
attribute [go_sem] lt_law05_AvlIs
theorem lt_law05_up : (n_law05_up < 1000000) = True := eq_true (by decide)
attribute [go_sem] lt_law05_up
theorem lt_avl_Put : (n_avl_Put < 1000000) = True := eq_true (by decide)
attribute [go_sem] lt_avl_Put
theorem lt_avl_asked : (n_avl_asked < 1000000) = True := eq_true (by decide)
attribute [go_sem] lt_avl_asked
theorem lt_avl_put : (n_avl_put < 1000000) = True := eq_true (by decide)
attribute [go_sem] lt_avl_put
theorem lt_avl_node : (n_avl_node < 1000000) = True := eq_true (by decide)
attribute [go_sem] lt_avl_node
theorem lt_avl_leveled : (n_avl_leveled < 1000000) = True := eq_true (by decide)
attribute [go_sem] lt_avl_leveled
theorem lt_avl_depth : (n_avl_depth < 1000000) = True := eq_true (by decide)
attribute [go_sem] lt_avl_depth
theorem lt_avl_left : (n_avl_left < 1000000) = True := eq_true (by decide)
attribute [go_sem] lt_avl_left
theorem lt_avl_right : (n_avl_right < 1000000) = True := eq_true (by decide)
attribute [go_sem] lt_avl_right
theorem lt_avl_Get : (n_avl_Get < 1000000) = True := eq_true (by decide)
attribute [go_sem] lt_avl_Get
theorem lt_law05_small : (n_law05_small < 1000000) = True := eq_true (by decide)
attribute [go_sem] lt_law05_small
theorem lt_law05_AvlGets : (n_law05_AvlGets < 1000000) = True := eq_true (by decide)
attribute [go_sem] lt_law05_AvlGets
theorem lt_law05_asked : (n_law05_asked < 1000000) = True := eq_true (by decide)
attribute [go_sem] lt_law05_asked
theorem lt_law00_Code : (n_law00_Code < 1000000) = True := eq_true (by decide)
attribute [go_sem] lt_law00_Code
theorem lt_ref05_Get : (n_ref05_Get < 1000000) = True := eq_true (by decide)
attribute [go_sem] lt_ref05_Get
theorem lt_law05_AvlPuts : (n_law05_AvlPuts < 1000000) = True := eq_true (by decide)
attribute [go_sem] lt_law05_AvlPuts
theorem lt_ref04_Same : (n_ref04_Same < 1000000) = True := eq_true (by decide)
attribute [go_sem] lt_ref04_Same
theorem lt_ref05_Put : (n_ref05_Put < 1000000) = True := eq_true (by decide)
attribute [go_sem] lt_ref05_Put
theorem lt_ref05_Node : (n_ref05_Node < 1000000) = True := eq_true (by decide)
attribute [go_sem] lt_ref05_Node
theorem lt_ref05_level : (n_ref05_level < 1000000) = True := eq_true (by decide)
attribute [go_sem] lt_ref05_level
theorem lt_ref05_tilt : (n_ref05_tilt < 1000000) = True := eq_true (by decide)
attribute [go_sem] lt_ref05_tilt
theorem lt_ref05_left : (n_ref05_left < 1000000) = True := eq_true (by decide)
attribute [go_sem] lt_ref05_left
theorem lt_ref05_right : (n_ref05_right < 1000000) = True := eq_true (by decide)
attribute [go_sem] lt_ref05_right
theorem lt_law10_CodeWrites : (n_law10_CodeWrites < 1000000) = True := eq_true (by decide)
attribute [go_sem] lt_law10_CodeWrites
theorem lt_law10_up : (n_law10_up < 1000000) = True := eq_true (by decide)
attribute [go_sem] lt_law10_up
theorem lt_code_Write : (n_code_Write < 1000000) = True := eq_true (by decide)
attribute [go_sem] lt_code_Write
theorem lt_code_long : (n_code_long < 1000000) = True := eq_true (by decide)
attribute [go_sem] lt_code_long
theorem lt_code_write : (n_code_write < 1000000) = True := eq_true (by decide)
attribute [go_sem] lt_code_write
theorem lt_coder_Bytes : (n_coder_Bytes < 1000000) = True := eq_true (by decide)
attribute [go_sem] lt_coder_Bytes
theorem lt_coder_Number : (n_coder_Number < 1000000) = True := eq_true (by decide)
attribute [go_sem] lt_coder_Number
theorem lt_code_Read : (n_code_Read < 1000000) = True := eq_true (by decide)
attribute [go_sem] lt_code_Read
theorem lt_coder_NewReader : (n_coder_NewReader < 1000000) = True := eq_true (by decide)
attribute [go_sem] lt_coder_NewReader
theorem lt_code_Read_1 : (n_code_Read_1 < 1000000) = True := eq_true (by decide)
attribute [go_sem] lt_code_Read_1
theorem lt_coder_Reader_Byte : (n_coder_Reader_Byte < 1000000) = True := eq_true (by decide)
attribute [go_sem] lt_coder_Reader_Byte
theorem lt_coder_Reader_take : (n_coder_Reader_take < 1000000) = True := eq_true (by decide)
attribute [go_sem] lt_coder_Reader_take
theorem lt_coder_Reader_Bytes : (n_coder_Reader_Bytes < 1000000) = True := eq_true (by decide)
attribute [go_sem] lt_coder_Reader_Bytes
theorem lt_coder_Reader_Number : (n_coder_Reader_Number < 1000000) = True := eq_true (by decide)
attribute [go_sem] lt_coder_Reader_Number
theorem lt_coder_Reader_End : (n_coder_Reader_End < 1000000) = True := eq_true (by decide)
attribute [go_sem] lt_coder_Reader_End
theorem lt_law10_small : (n_law10_small < 1000000) = True := eq_true (by decide)
attribute [go_sem] lt_law10_small
theorem lt_ref10_Write : (n_ref10_Write < 1000000) = True := eq_true (by decide)
attribute [go_sem] lt_ref10_Write
theorem lt_ref10_long : (n_ref10_long < 1000000) = True := eq_true (by decide)
attribute [go_sem] lt_ref10_long
theorem lt_ref10_bytes : (n_ref10_bytes < 1000000) = True := eq_true (by decide)
attribute [go_sem] lt_ref10_bytes
theorem lt_ref02_Bytes : (n_ref02_Bytes < 1000000) = True := eq_true (by decide)
attribute [go_sem] lt_ref02_Bytes
theorem lt_ref02_Number : (n_ref02_Number < 1000000) = True := eq_true (by decide)
attribute [go_sem] lt_ref02_Number
theorem lt_law10_CodeReads : (n_law10_CodeReads < 1000000) = True := eq_true (by decide)
attribute [go_sem] lt_law10_CodeReads
theorem lt_ref10_Read : (n_ref10_Read < 1000000) = True := eq_true (by decide)
attribute [go_sem] lt_ref10_Read
theorem lt_ref10_read : (n_ref10_read < 1000000) = True := eq_true (by decide)
attribute [go_sem] lt_ref10_read
theorem lt_ref02_Reader_Byte : (n_ref02_Reader_Byte < 1000000) = True := eq_true (by decide)
attribute [go_sem] lt_ref02_Reader_Byte
theorem lt_ref02_Reader_Bytes : (n_ref02_Reader_Bytes < 1000000) = True := eq_true (by decide)
attribute [go_sem] lt_ref02_Reader_Bytes
theorem lt_ref02_Reader_Number : (n_ref02_Reader_Number < 1000000) = True := eq_true (by decide)
attribute [go_sem] lt_ref02_Reader_Number
theorem lt_ref02_Reader_End : (n_ref02_Reader_End < 1000000) = True := eq_true (by decide)
attribute [go_sem] lt_ref02_Reader_End
theorem lt_law10_CodeBack : (n_law10_CodeBack < 1000000) = True := eq_true (by decide)
attribute [go_sem] lt_law10_CodeBack
theorem lt_law05_AvlDeletes : (n_law05_AvlDeletes < 1000000) = True := eq_true (by decide)
attribute [go_sem] lt_law05_AvlDeletes
theorem lt_avl_Delete : (n_avl_Delete < 1000000) = True := eq_true (by decide)
attribute [go_sem] lt_avl_Delete
theorem lt_avl_take : (n_avl_take < 1000000) = True := eq_true (by decide)
attribute [go_sem] lt_avl_take
theorem lt_ref05_Delete : (n_ref05_Delete < 1000000) = True := eq_true (by decide)
attribute [go_sem] lt_ref05_Delete
theorem lt_law05_AvlHolds : (n_law05_AvlHolds < 1000000) = True := eq_true (by decide)
attribute [go_sem] lt_law05_AvlHolds
theorem ca_law06_ScanRanges (l : List AV) : cArgs tab n_law06_ScanRanges l = canonA [] l := rfl
attribute [go_sem] t_law06_ScanRanges ca_law06_ScanRanges
theorem ca_law06_up (l : List AV) : cArgs tab n_law06_up l = canonA [] l := rfl
attribute [go_sem] t_law06_up ca_law06_up
theorem ca_scan_In (l : List AV) : cArgs tab n_scan_In l = canonA [] l := rfl
attribute [go_sem] t_scan_In ca_scan_In
theorem ca_bytes_Compare (l : List AV) : cArgs tab n_bytes_Compare l = canonA [] l := rfl
attribute [go_sem] t_bytes_Compare ca_bytes_Compare
theorem ca_ref04_Light (l : List AV) : cArgs tab n_ref04_Light l = canonA [] l := rfl
attribute [go_sem] t_ref04_Light ca_ref04_Light
theorem ca_scan_Range (l : List AV) : cArgs tab n_scan_Range l = canonA [] l := rfl
attribute [go_sem] t_scan_Range ca_scan_Range
theorem ca_avl_Is (l : List AV) : cArgs tab n_avl_Is l = canonA [] l := rfl
attribute [go_sem] t_avl_Is ca_avl_Is
theorem ca_tree_Full (l : List AV) : cArgs tab n_tree_Full l = canonA [] l := rfl
attribute [go_sem] t_tree_Full ca_tree_Full
theorem ca_tree_Check (l : List AV) : cArgs tab n_tree_Check l = canonA [] l := rfl
attribute [go_sem] t_tree_Check ca_tree_Check
theorem ca_tree_deep (l : List AV) : cArgs tab n_tree_deep l = canonA [] l := rfl
attribute [go_sem] t_tree_deep ca_tree_deep
theorem ca_tree_deep_1 (l : List AV) : cArgs tab n_tree_deep_1 l = canonA [] l := rfl
attribute [go_sem] t_tree_deep_1 ca_tree_deep_1
theorem ca_slices_ContainsFunc_sl_api_Tree_api_Tree (l : List AV) : cArgs tab n_slices_ContainsFunc_sl_api_Tree_api_Tree l = canonA [] l := rfl
attribute [go_sem] t_slices_ContainsFunc_sl_api_Tree_api_Tree ca_slices_ContainsFunc_sl_api_Tree_api_Tree
theorem ca_slices_IndexFunc_sl_api_Tree_api_Tree (l : List AV) : cArgs tab n_slices_IndexFunc_sl_api_Tree_api_Tree l = canonA [] l := rfl
attribute [go_sem] t_slices_IndexFunc_sl_api_Tree_api_Tree ca_slices_IndexFunc_sl_api_Tree_api_Tree
theorem ca_tree_formed (l : List AV) : cArgs tab n_tree_formed l = canonA [] l := rfl
attribute [go_sem] t_tree_formed ca_tree_formed
theorem ca_tree_formed_1 (l : List AV) : cArgs tab n_tree_formed_1 l = canonA [] l := rfl
attribute [go_sem] t_tree_formed_1 ca_tree_formed_1
theorem ca_tree_full (l : List AV) : cArgs tab n_tree_full l = canonA [] l := rfl
attribute [go_sem] t_tree_full ca_tree_full
theorem ca_tree_full_1 (l : List AV) : cArgs tab n_tree_full_1 l = canonA [] l := rfl
attribute [go_sem] t_tree_full_1 ca_tree_full_1
theorem ca_tree_List (l : List AV) : cArgs tab n_tree_List l = canonA [] l := rfl
attribute [go_sem] t_tree_List ca_tree_List
theorem ca_tree_List_1 (l : List AV) : cArgs tab n_tree_List_1 l = canonA [] l := rfl
attribute [go_sem] t_tree_List_1 ca_tree_List_1
theorem ca_avl_even (l : List AV) : cArgs tab n_avl_even l = canonA [] l := rfl
attribute [go_sem] t_avl_even ca_avl_even
theorem ca_slices_Clone_sl_byte_byte (l : List AV) : cArgs tab n_slices_Clone_sl_byte_byte l = canonA [] l := rfl
attribute [go_sem] t_slices_Clone_sl_byte_byte ca_slices_Clone_sl_byte_byte
theorem ca_ref05_Is (l : List AV) : cArgs tab n_ref05_Is l = canonA [] l := rfl
attribute [go_sem] t_ref05_Is ca_ref05_Is
theorem ca_ref04_Check (l : List AV) : cArgs tab n_ref04_Check l = canonA [] l := rfl
attribute [go_sem] t_ref04_Check ca_ref04_Check
theorem ca_ref04_Deep (l : List AV) : cArgs tab n_ref04_Deep l = canonA [] l := rfl
attribute [go_sem] t_ref04_Deep ca_ref04_Deep
theorem ca_ref04_Formed (l : List AV) : cArgs tab n_ref04_Formed l = canonA [] l := rfl
attribute [go_sem] t_ref04_Formed ca_ref04_Formed
theorem ca_ref04_Full (l : List AV) : cArgs tab n_ref04_Full l = canonA [] l := rfl
attribute [go_sem] t_ref04_Full ca_ref04_Full
theorem ca_ref04_List (l : List AV) : cArgs tab n_ref04_List l = canonA [] l := rfl
attribute [go_sem] t_ref04_List ca_ref04_List
theorem ca_ref04_Depth (l : List AV) : cArgs tab n_ref04_Depth l = canonA [] l := rfl
attribute [go_sem] t_ref04_Depth ca_ref04_Depth
theorem ca_ref06_Range (l : List AV) : cArgs tab n_ref06_Range l = canonA [] l := rfl
attribute [go_sem] t_ref06_Range ca_ref06_Range
theorem ca_ref06_In (l : List AV) : cArgs tab n_ref06_In l = canonA [] l := rfl
attribute [go_sem] t_ref06_In ca_ref06_In
theorem ca_ref06_Same (l : List AV) : cArgs tab n_ref06_Same l = canonA [] l := rfl
attribute [go_sem] t_ref06_Same ca_ref06_Same
theorem ca_law05_AvlIs (l : List AV) : cArgs tab n_law05_AvlIs l = canonA [] l := rfl
attribute [go_sem] t_law05_AvlIs ca_law05_AvlIs
theorem ca_law05_up (l : List AV) : cArgs tab n_law05_up l = canonA [] l := rfl
attribute [go_sem] t_law05_up ca_law05_up
theorem ca_avl_Put (l : List AV) : cArgs tab n_avl_Put l = canonA [] l := rfl
attribute [go_sem] t_avl_Put ca_avl_Put
theorem ca_avl_asked (l : List AV) : cArgs tab n_avl_asked l = canonA [] l := rfl
attribute [go_sem] t_avl_asked ca_avl_asked
theorem ca_avl_put (l : List AV) : cArgs tab n_avl_put l = canonA [] l := rfl
attribute [go_sem] t_avl_put ca_avl_put
theorem ca_avl_node (l : List AV) : cArgs tab n_avl_node l = canonA [] l := rfl
attribute [go_sem] t_avl_node ca_avl_node
theorem ca_avl_leveled (l : List AV) : cArgs tab n_avl_leveled l = canonA [] l := rfl
attribute [go_sem] t_avl_leveled ca_avl_leveled
theorem ca_avl_depth (l : List AV) : cArgs tab n_avl_depth l = canonA [] l := rfl
attribute [go_sem] t_avl_depth ca_avl_depth
theorem ca_avl_left (l : List AV) : cArgs tab n_avl_left l = canonA [] l := rfl
attribute [go_sem] t_avl_left ca_avl_left
theorem ca_avl_right (l : List AV) : cArgs tab n_avl_right l = canonA [] l := rfl
attribute [go_sem] t_avl_right ca_avl_right
theorem ca_avl_Get (l : List AV) : cArgs tab n_avl_Get l = canonA [] l := rfl
attribute [go_sem] t_avl_Get ca_avl_Get
theorem ca_law05_small (l : List AV) : cArgs tab n_law05_small l = canonA [] l := rfl
attribute [go_sem] t_law05_small ca_law05_small
theorem ca_law05_AvlGets (l : List AV) : cArgs tab n_law05_AvlGets l = canonA [] l := rfl
attribute [go_sem] t_law05_AvlGets ca_law05_AvlGets
theorem ca_law05_asked (l : List AV) : cArgs tab n_law05_asked l = canonA [] l := rfl
attribute [go_sem] t_law05_asked ca_law05_asked
theorem ca_law00_Code (l : List AV) : cArgs tab n_law00_Code l = canonA [] l := rfl
attribute [go_sem] t_law00_Code ca_law00_Code
theorem ca_ref05_Get (l : List AV) : cArgs tab n_ref05_Get l = canonA [] l := rfl
attribute [go_sem] t_ref05_Get ca_ref05_Get
theorem ca_law05_AvlPuts (l : List AV) : cArgs tab n_law05_AvlPuts l = canonA [] l := rfl
attribute [go_sem] t_law05_AvlPuts ca_law05_AvlPuts
theorem ca_ref04_Same (l : List AV) : cArgs tab n_ref04_Same l = canonA [] l := rfl
attribute [go_sem] t_ref04_Same ca_ref04_Same
theorem ca_ref05_Put (l : List AV) : cArgs tab n_ref05_Put l = canonA [] l := rfl
attribute [go_sem] t_ref05_Put ca_ref05_Put
theorem ca_ref05_Node (l : List AV) : cArgs tab n_ref05_Node l = canonA [] l := rfl
attribute [go_sem] t_ref05_Node ca_ref05_Node
theorem ca_ref05_level (l : List AV) : cArgs tab n_ref05_level l = canonA [] l := rfl
attribute [go_sem] t_ref05_level ca_ref05_level
theorem ca_ref05_tilt (l : List AV) : cArgs tab n_ref05_tilt l = canonA [] l := rfl
attribute [go_sem] t_ref05_tilt ca_ref05_tilt
theorem ca_ref05_left (l : List AV) : cArgs tab n_ref05_left l = canonA [] l := rfl
attribute [go_sem] t_ref05_left ca_ref05_left
theorem ca_ref05_right (l : List AV) : cArgs tab n_ref05_right l = canonA [] l := rfl
attribute [go_sem] t_ref05_right ca_ref05_right
theorem ca_law10_CodeWrites (l : List AV) : cArgs tab n_law10_CodeWrites l = canonA [] l := rfl
attribute [go_sem] t_law10_CodeWrites ca_law10_CodeWrites
theorem ca_law10_up (l : List AV) : cArgs tab n_law10_up l = canonA [] l := rfl
attribute [go_sem] t_law10_up ca_law10_up
theorem ca_code_Write (l : List AV) : cArgs tab n_code_Write l = canonA [] l := rfl
attribute [go_sem] t_code_Write ca_code_Write
theorem ca_code_long (l : List AV) : cArgs tab n_code_long l = canonA [] l := rfl
attribute [go_sem] t_code_long ca_code_long
theorem ca_code_write (l : List AV) : cArgs tab n_code_write l = canonA [true, false] l := rfl
attribute [go_sem] t_code_write ca_code_write
theorem ca_coder_Bytes (l : List AV) : cArgs tab n_coder_Bytes l = canonA [] l := rfl
attribute [go_sem] t_coder_Bytes ca_coder_Bytes
theorem ca_coder_Number (l : List AV) : cArgs tab n_coder_Number l = canonA [] l := rfl
attribute [go_sem] t_coder_Number ca_coder_Number
theorem ca_code_Read (l : List AV) : cArgs tab n_code_Read l = canonA [] l := rfl
attribute [go_sem] t_code_Read ca_code_Read
theorem ca_coder_NewReader (l : List AV) : cArgs tab n_coder_NewReader l = canonA [] l := rfl
attribute [go_sem] t_coder_NewReader ca_coder_NewReader
theorem ca_code_Read_1 (l : List AV) : cArgs tab n_code_Read_1 l = canonA [] l := rfl
attribute [go_sem] t_code_Read_1 ca_code_Read_1
theorem ca_coder_Reader_Byte (l : List AV) : cArgs tab n_coder_Reader_Byte l = canonA [] l := rfl
attribute [go_sem] t_coder_Reader_Byte ca_coder_Reader_Byte
theorem ca_coder_Reader_take (l : List AV) : cArgs tab n_coder_Reader_take l = canonA [] l := rfl
attribute [go_sem] t_coder_Reader_take ca_coder_Reader_take
theorem ca_coder_Reader_Bytes (l : List AV) : cArgs tab n_coder_Reader_Bytes l = canonA [] l := rfl
attribute [go_sem] t_coder_Reader_Bytes ca_coder_Reader_Bytes
theorem ca_coder_Reader_Number (l : List AV) : cArgs tab n_coder_Reader_Number l = canonA [] l := rfl
attribute [go_sem] t_coder_Reader_Number ca_coder_Reader_Number
theorem ca_coder_Reader_End (l : List AV) : cArgs tab n_coder_Reader_End l = canonA [] l := rfl
attribute [go_sem] t_coder_Reader_End ca_coder_Reader_End
theorem ca_law10_small (l : List AV) : cArgs tab n_law10_small l = canonA [] l := rfl
attribute [go_sem] t_law10_small ca_law10_small
theorem ca_ref10_Write (l : List AV) : cArgs tab n_ref10_Write l = canonA [] l := rfl
attribute [go_sem] t_ref10_Write ca_ref10_Write
theorem ca_ref10_long (l : List AV) : cArgs tab n_ref10_long l = canonA [] l := rfl
attribute [go_sem] t_ref10_long ca_ref10_long
theorem ca_ref10_bytes (l : List AV) : cArgs tab n_ref10_bytes l = canonA [] l := rfl
attribute [go_sem] t_ref10_bytes ca_ref10_bytes
theorem ca_ref02_Bytes (l : List AV) : cArgs tab n_ref02_Bytes l = canonA [] l := rfl
attribute [go_sem] t_ref02_Bytes ca_ref02_Bytes
theorem ca_ref02_Number (l : List AV) : cArgs tab n_ref02_Number l = canonA [] l := rfl
attribute [go_sem] t_ref02_Number ca_ref02_Number
theorem ca_law10_CodeReads (l : List AV) : cArgs tab n_law10_CodeReads l = canonA [] l := rfl
attribute [go_sem] t_law10_CodeReads ca_law10_CodeReads
theorem ca_ref10_Read (l : List AV) : cArgs tab n_ref10_Read l = canonA [] l := rfl
attribute [go_sem] t_ref10_Read ca_ref10_Read
theorem ca_ref10_read (l : List AV) : cArgs tab n_ref10_read l = canonA [] l := rfl
attribute [go_sem] t_ref10_read ca_ref10_read
theorem ca_ref02_Reader_Byte (l : List AV) : cArgs tab n_ref02_Reader_Byte l = canonA [] l := rfl
attribute [go_sem] t_ref02_Reader_Byte ca_ref02_Reader_Byte
theorem ca_ref02_Reader_Bytes (l : List AV) : cArgs tab n_ref02_Reader_Bytes l = canonA [] l := rfl
attribute [go_sem] t_ref02_Reader_Bytes ca_ref02_Reader_Bytes
theorem ca_ref02_Reader_Number (l : List AV) : cArgs tab n_ref02_Reader_Number l = canonA [] l := rfl
attribute [go_sem] t_ref02_Reader_Number ca_ref02_Reader_Number
theorem ca_ref02_Reader_End (l : List AV) : cArgs tab n_ref02_Reader_End l = canonA [] l := rfl
attribute [go_sem] t_ref02_Reader_End ca_ref02_Reader_End
theorem ca_law10_CodeBack (l : List AV) : cArgs tab n_law10_CodeBack l = canonA [] l := rfl
attribute [go_sem] t_law10_CodeBack ca_law10_CodeBack
theorem ca_law05_AvlDeletes (l : List AV) : cArgs tab n_law05_AvlDeletes l = canonA [] l := rfl
attribute [go_sem] t_law05_AvlDeletes ca_law05_AvlDeletes
theorem ca_avl_Delete (l : List AV) : cArgs tab n_avl_Delete l = canonA [] l := rfl
attribute [go_sem] t_avl_Delete ca_avl_Delete
theorem ca_avl_take (l : List AV) : cArgs tab n_avl_take l = canonA [] l := rfl
attribute [go_sem] t_avl_take ca_avl_take
theorem ca_ref05_Delete (l : List AV) : cArgs tab n_ref05_Delete l = canonA [] l := rfl
attribute [go_sem] t_ref05_Delete ca_ref05_Delete
theorem ca_law05_AvlHolds (l : List AV) : cArgs tab n_law05_AvlHolds l = canonA [] l := rfl
attribute [go_sem] t_law05_AvlHolds ca_law05_AvlHolds
theorem kt_law06_ScanRanges_r (l : List AV) : keepT i_law06_ScanRanges_r l = keepT [false, false, false, false, true, false, false, false, false, false, false, false, false, false, false, false, false, false, false, false, false, false, false, false, false, false, false, false, false, false, false, false, false, false, false, false, false, false, false, false, false, false, false, false, false, false, false] l := rfl
attribute [go_sem] kt_law06_ScanRanges_r
theorem kt_law06_up_r (l : List AV) : keepT i_law06_up_r l = keepT [true, false, false, false, false, false, false, false, false, false, false, false, false, false, false, false, false, false, false, false, false, false] l := rfl
attribute [go_sem] kt_law06_up_r
theorem kt_scan_In_r (l : List AV) : keepT i_scan_In_r l = keepT [false, false, false, false, true, false, false, false, false, false, false, false, false, false, false, false, false, false, false, false, false] l := rfl
attribute [go_sem] kt_scan_In_r
theorem kt_bytes_Compare_r (l : List AV) : keepT i_bytes_Compare_r l = keepT [false, false, false, false, true, false, false, false] l := rfl
attribute [go_sem] kt_bytes_Compare_r
theorem kt_ref04_Light_r (l : List AV) : keepT i_ref04_Light_r l = keepT [false, false, false, false, false, false, true, false, false, false, false, false, false, false, false, false, false, false, false, false, false, false, false, false, false, false, false, false, false, false, false, false, false, false, false, false, false, false, false, false, false, false, false, false, false, false, false, false, false, false, false, false, false, false, false, false, false, false, false, false] l := rfl
attribute [go_sem] kt_ref04_Light_r
theorem kt_ref04_Light_j1 (l : List AV) : keepT i_ref04_Light_j1 l = keepT [false, true, true, true, false, false, false, true, false, false, false, false, false, false, false, false, false, false, false, false, false, false, false, false, false, false, false, false, false, false, false, false, false, false, false, false, false, false, false, false, false, false, false, false, false, false, false, false, false, false, false, false, false, false, false, false, false, false, false, false] l := rfl
attribute [go_sem] kt_ref04_Light_j1
theorem kt_ref04_Light_k0 (l : List AV) : keepT i_ref04_Light_k0 l = keepT [false, true, true, true, false, false, false, true, false, false, false, false, false, false, false, false, false, false, false, false, false, false, false, false, false, false, false, false, false, false, false, false, false, false, false, false, false, false, false, false, false, false, false, false, false, false, false, false, false, false, false, false, false, false, false, false, false, false, false, false] l := rfl
attribute [go_sem] kt_ref04_Light_k0
theorem kt_ref04_Light_j0 (l : List AV) : keepT i_ref04_Light_j0 l = keepT [false, true, false, false, false, false, false, false, false, false, false, false, false, false, false, false, false, false, false, false, false, false, false, false, false, false, false, false, false, false, false, false, false, false, false, false, false, false, false, false, false, false, false, false, false, false, false, false, false, false, false, false, false, false, false, false, false, false, false, false] l := rfl
attribute [go_sem] kt_ref04_Light_j0
theorem kt_scan_Range_r (l : List AV) : keepT i_scan_Range_r l = keepT [false, false, false, false, true, true, false, false, false, false, false, false, false, false, false, false, false, false, false, false, false, false, false, false, false, false, false, false, false, false, false, false, false, false, false, false] l := rfl
attribute [go_sem] kt_scan_Range_r
theorem kt_scan_Range_j1 (l : List AV) : keepT i_scan_Range_j1 l = keepT [false, false, false, true, false, false, true, false, false, false, false, false, false, false, true, true, true, false, false, false, false, false, false, false, false, false, false, false, false, false, false, false, false, false, false, false] l := rfl
attribute [go_sem] kt_scan_Range_j1
theorem kt_scan_Range_k0 (l : List AV) : keepT i_scan_Range_k0 l = keepT [false, false, false, true, false, false, true, false, false, false, false, false, false, false, true, true, true, false, false, false, false, false, false, false, false, false, false, false, false, false, false, false, false, false, false, false] l := rfl
attribute [go_sem] kt_scan_Range_k0
theorem kt_scan_Range_j0 (l : List AV) : keepT i_scan_Range_j0 l = keepT [false, false, false, false, false, false, true, false, false, false, false, false, false, false, false, false, false, false, false, false, false, false, false, false, false, false, false, false, false, false, false, false, false, false, false, false] l := rfl
attribute [go_sem] kt_scan_Range_j0
theorem kt_avl_Is_r (l : List AV) : keepT i_avl_Is_r l = keepT [false, false, true, false, false, false, false, false, false, false, false, false, false, false, false, false, false, false, false, false, false, false, false, false, false, false, false, false, false, false, false, false, false, false, false, false, false] l := rfl
attribute [go_sem] kt_avl_Is_r
theorem kt_avl_Is_j1 (l : List AV) : keepT i_avl_Is_j1 l = keepT [false, true, false, true, true, false, false, false, false, false, false, false, false, false, false, false, false, false, false, false, false, false, false, false, false, false, false, false, false, false, false, false, false, false, false, false, false] l := rfl
attribute [go_sem] kt_avl_Is_j1
theorem kt_avl_Is_k0 (l : List AV) : keepT i_avl_Is_k0 l = keepT [false, true, false, true, true, false, false, false, false, false, false, false, false, false, false, false, false, false, false, false, false, false, false, false, false, false, false, false, false, false, false, false, false, false, false, false, false] l := rfl
attribute [go_sem] kt_avl_Is_k0
theorem kt_avl_Is_j0 (l : List AV) : keepT i_avl_Is_j0 l = keepT [false, true, false, false, false, false, false, false, false, false, false, false, false, false, false, false, false, false, false, false, false, false, false, false, false, false, false, false, false, false, false, false, false, false, false, false, false] l := rfl
attribute [go_sem] kt_avl_Is_j0
theorem kt_tree_Full_r (l : List AV) : keepT i_tree_Full_r l = keepT [false, false, true, false, false, false, false, false, false, false] l := rfl
attribute [go_sem] kt_tree_Full_r
theorem kt_tree_Check_r (l : List AV) : keepT i_tree_Check_r l = keepT [false, false, true, false, false, false, false, false, false, false, false, false] l := rfl
attribute [go_sem] kt_tree_Check_r
theorem kt_tree_Check_j0 (l : List AV) : keepT i_tree_Check_j0 l = keepT [false, false, false, false, false, false, false, false, false, false, false, false] l := rfl
attribute [go_sem] kt_tree_Check_j0
theorem kt_tree_deep_r (l : List AV) : keepT i_tree_deep_r l = keepT [false, false, false, false, true, false, false, false, false, false, false, false, false, false, false, false, false, false, false, false, false, false, false, false, false, false, false, false, false] l := rfl
attribute [go_sem] kt_tree_deep_r
theorem kt_tree_deep_1_r (l : List AV) : keepT i_tree_deep_1_r l = keepT [false, false, false, true, false, false, false, false] l := rfl
attribute [go_sem] kt_tree_deep_1_r
theorem kt_slices_ContainsFunc_sl_api_Tree_api_Tree_r (l : List AV) : keepT i_slices_ContainsFunc_sl_api_Tree_api_Tree_r l = keepT [false, false, false, false, true, false, false, false, false] l := rfl
attribute [go_sem] kt_slices_ContainsFunc_sl_api_Tree_api_Tree_r
theorem kt_slices_IndexFunc_sl_api_Tree_api_Tree_r (l : List AV) : keepT i_slices_IndexFunc_sl_api_Tree_api_Tree_r l = keepT [false, false, false, false, true, false, false, false, false, false, false, false, false, false, false, false, false, false, false] l := rfl
attribute [go_sem] kt_slices_IndexFunc_sl_api_Tree_api_Tree_r
theorem kt_slices_IndexFunc_sl_api_Tree_api_Tree_j1 (l : List AV) : keepT i_slices_IndexFunc_sl_api_Tree_api_Tree_j1 l = keepT [true, true, false, false, false, false, false, true, true, false, false, false, false, false, false, false, false, false, false] l := rfl
attribute [go_sem] kt_slices_IndexFunc_sl_api_Tree_api_Tree_j1
theorem kt_slices_IndexFunc_sl_api_Tree_api_Tree_k0 (l : List AV) : keepT i_slices_IndexFunc_sl_api_Tree_api_Tree_k0 l = keepT [true, true, false, false, false, false, false, true, true, false, false, false, false, false, false, false, false, false, false] l := rfl
attribute [go_sem] kt_slices_IndexFunc_sl_api_Tree_api_Tree_k0
theorem kt_slices_IndexFunc_sl_api_Tree_api_Tree_j0 (l : List AV) : keepT i_slices_IndexFunc_sl_api_Tree_api_Tree_j0 l = keepT [false, false, false, false, false, false, false, false, false, false, false, false, false, false, false, false, false, false, false] l := rfl
attribute [go_sem] kt_slices_IndexFunc_sl_api_Tree_api_Tree_j0
theorem kt_tree_formed_r (l : List AV) : keepT i_tree_formed_r l = keepT [false, false, true, false, false, false, false, false, false, false, false, false, false, false, false, false, false, false, false, false, false, false, false, false, false, false, false, false, false, false, false, false, false, false, false, false, false, false, false, false, false, false, false, false, false, false, false, false, false, false, false, false, false, false, false, false, false, false, false, false, false, false, false, false, false, false, false, false, false, false, false, false, false, false, false, false, false, false, false, false, false, false, false, false, false, false, false] l := rfl
attribute [go_sem] kt_tree_formed_r
theorem kt_tree_formed_j0 (l : List AV) : keepT i_tree_formed_j0 l = keepT [false, true, false, true, false, false, false, false, false, false, false, false, false, false, false, false, false, false, false, false, false, false, false, false, false, false, false, false, false, false, false, false, false, false, false, false, false, false, false, false, false, false, false, false, false, false, false, false, false, false, false, false, false, false, false, false, false, false, false, false, false, false, false, false, false, false, false, false, false, false, false, false, false, false, false, false, false, false, false, false, false, false, false, false, false, false, false] l := rfl
attribute [go_sem] kt_tree_formed_j0
theorem kt_tree_formed_1_r (l : List AV) : keepT i_tree_formed_1_r l = keepT [false, false, true, false, false, false] l := rfl
attribute [go_sem] kt_tree_formed_1_r
theorem kt_tree_full_r (l : List AV) : keepT i_tree_full_r l = keepT [false, false, true, false, false, false, false, false, false, false, false, false, false, false, false] l := rfl
attribute [go_sem] kt_tree_full_r
theorem kt_tree_full_1_r (l : List AV) : keepT i_tree_full_1_r l = keepT [false, false, true, false, false, false] l := rfl
attribute [go_sem] kt_tree_full_1_r
theorem kt_tree_List_r (l : List AV) : keepT i_tree_List_r l = keepT [false, false, true, false, false, false, false, false, false, false, false, false, false] l := rfl
attribute [go_sem] kt_tree_List_r
theorem kt_tree_List_1_r (l : List AV) : keepT i_tree_List_1_r l = keepT [false, false, false, false, false, false, false, false, false, false, false, false, false, false, false, false, false, false, false, false, false, false, false, false, false, false] l := rfl
attribute [go_sem] kt_tree_List_1_r
theorem kt_avl_even_r (l : List AV) : keepT i_avl_even_r l = keepT [false, false, true, true, false, false, false, false, false, false, false, false, false, false, false, false, false, false, false, false, false, false, false, false, false, false, false, false, false, false, false, false, false, false, false, false, false, false, false, false, false, false, false, false, false, false, false, false] l := rfl
attribute [go_sem] kt_avl_even_r
theorem kt_slices_Clone_sl_byte_byte_r (l : List AV) : keepT i_slices_Clone_sl_byte_byte_r l = keepT [false, false, true, false, false, false, false, false] l := rfl
attribute [go_sem] kt_slices_Clone_sl_byte_byte_r
theorem kt_ref05_Is_r (l : List AV) : keepT i_ref05_Is_r l = keepT [false, false, true, false, false, false, false, false, false, false, false, false, false, false, false, false, false, false, false, false, false, false, false, false, false, false, false, false, false, false, false, false, false, false, false, false, false, false, false, false, false, false, false, false, false, false, false, false, false, false, false, false, false, false, false, false, false, false, false, false, false, false, false] l := rfl
attribute [go_sem] kt_ref05_Is_r
theorem kt_ref05_Is_j1 (l : List AV) : keepT i_ref05_Is_j1 l = keepT [false, false, false, false, true, true, false, false, false, false, false, false, false, false, false, false, false, false, false, false, false, false, false, false, false, false, false, false, false, false, false, false, false, false, false, false, false, false, false, false, false, false, false, false, false, false, false, false, false, false, false, false, false, false, false, false, false, false, false, false, false, false, false] l := rfl
attribute [go_sem] kt_ref05_Is_j1
theorem kt_ref05_Is_k0 (l : List AV) : keepT i_ref05_Is_k0 l = keepT [false, false, false, false, true, true, false, false, false, false, false, false, false, false, false, false, false, false, false, false, false, false, false, false, false, false, false, false, false, false, false, false, false, false, false, false, false, false, false, false, false, false, false, false, false, false, false, false, false, false, false, false, false, false, false, false, false, false, false, false, false, false, false] l := rfl
attribute [go_sem] kt_ref05_Is_k0
theorem kt_ref05_Is_j0 (l : List AV) : keepT i_ref05_Is_j0 l = keepT [false, false, false, false, false, false, false, false, false, false, false, false, false, false, false, false, false, false, false, false, false, false, false, false, false, false, false, false, false, false, false, false, false, false, false, false, false, false, false, false, false, false, false, false, false, false, false, false, false, false, false, false, false, false, false, false, false, false, false, false, false, false, false] l := rfl
attribute [go_sem] kt_ref05_Is_j0
theorem kt_ref04_Check_r (l : List AV) : keepT i_ref04_Check_r l = keepT [false, false, true, false, false, false, false, false, false, false, false, false] l := rfl
attribute [go_sem] kt_ref04_Check_r
theorem kt_ref04_Deep_r (l : List AV) : keepT i_ref04_Deep_r l = keepT [false, false, false, false, true, false, false, false, false, false, false, false, false, false, false, false, false, false, false, false, false, false, false, false, false, false, false, false, false, false, false, false, false, false, false, false, false, false, false, false, false, false, false] l := rfl
attribute [go_sem] kt_ref04_Deep_r
theorem kt_ref04_Deep_j1 (l : List AV) : keepT i_ref04_Deep_j1 l = keepT [false, true, true, false, false, false, true, false, false, false, false, false, false, false, false, false, false, false, false, false, false, false, false, false, false, false, false, false, false, false, false, false, false, false, false, false, false, false, false, false, false, false, false] l := rfl
attribute [go_sem] kt_ref04_Deep_j1
theorem kt_ref04_Deep_k0 (l : List AV) : keepT i_ref04_Deep_k0 l = keepT [false, true, true, false, false, false, true, false, false, false, false, false, false, false, false, false, false, false, false, false, false, false, false, false, false, false, false, false, false, false, false, false, false, false, false, false, false, false, false, false, false, false, false] l := rfl
attribute [go_sem] kt_ref04_Deep_k0
theorem kt_ref04_Deep_j0 (l : List AV) : keepT i_ref04_Deep_j0 l = keepT [false, false, false, false, false, false, false, false, false, false, false, false, false, false, false, false, false, false, false, false, false, false, false, false, false, false, false, false, false, false, false, false, false, false, false, false, false, false, false, false, false, false, false] l := rfl
attribute [go_sem] kt_ref04_Deep_j0
theorem kt_ref04_Formed_r (l : List AV) : keepT i_ref04_Formed_r l = keepT [false, false, true, false, false, false, false, false, false, false, false, false, false, false, false, false, false, false, false, false, false, false, false, false, false, false, false, false, false, false, false, false, false, false, false, false, false, false, false, false, false, false, false, false, false, false, false, false, false, false, false, false, false, false, false, false, false, false, false, false, false, false, false, false, false, false, false, false, false, false, false, false, false, false, false, false, false, false, false, false, false, false, false, false, false, false, false, false, false, false, false, false, false, false] l := rfl
attribute [go_sem] kt_ref04_Formed_r
theorem kt_ref04_Formed_j0 (l : List AV) : keepT i_ref04_Formed_j0 l = keepT [false, true, false, false, false, false, true, true, false, false, false, false, false, false, false, false, false, false, false, false, false, false, false, false, false, false, false, false, false, false, false, false, false, false, false, false, false, false, false, false, false, false, false, false, false, false, false, false, false, false, false, false, false, false, false, false, false, false, false, false, false, false, false, false, false, false, false, false, false, false, false, false, false, false, false, false, false, false, false, false, false, false, false, false, false, false, false, false, false, false, false, false, false, false] l := rfl
attribute [go_sem] kt_ref04_Formed_j0
theorem kt_ref04_Formed_j2 (l : List AV) : keepT i_ref04_Formed_j2 l = keepT [false, true, false, false, false, false, true, true, true, false, false, false, false, false, false, false, false, false, false, false, false, false, false, false, false, false, false, false, false, false, false, false, false, false, false, false, false, false, false, false, false, false, false, false, false, false, false, false, false, false, false, false, false, false, false, false, false, false, false, false, false, false, false, false, false, false, false, false, false, false, false, false, false, false, false, false, false, false, false, false, false, false, false, false, false, false, false, false, false, false, false, false, false, false] l := rfl
attribute [go_sem] kt_ref04_Formed_j2
theorem kt_ref04_Formed_k0 (l : List AV) : keepT i_ref04_Formed_k0 l = keepT [false, true, false, false, false, false, true, true, true, false, false, false, false, false, false, false, false, false, false, false, false, false, false, false, false, false, false, false, false, false, false, false, false, false, false, false, false, false, false, false, false, false, false, false, false, false, false, false, false, false, false, false, false, false, false, false, false, false, false, false, false, false, false, false, false, false, false, false, false, false, false, false, false, false, false, false, false, false, false, false, false, false, false, false, false, false, false, false, false, false, false, false, false, false] l := rfl
attribute [go_sem] kt_ref04_Formed_k0
theorem kt_ref04_Formed_j1 (l : List AV) : keepT i_ref04_Formed_j1 l = keepT [false, false, false, false, false, false, false, true, false, false, false, false, false, false, false, false, false, false, false, false, false, false, false, false, false, false, false, false, false, false, false, false, false, false, false, false, false, false, false, false, false, false, false, false, false, false, false, false, false, false, false, false, false, false, false, false, false, false, false, false, false, false, false, false, false, false, false, false, false, false, false, false, false, false, false, false, false, false, false, false, false, false, false, false, false, false, false, false, false, false, false, false, false, false] l := rfl
attribute [go_sem] kt_ref04_Formed_j1
theorem kt_ref04_Full_r (l : List AV) : keepT i_ref04_Full_r l = keepT [false, false, true, false, false, false, false, false, false, false, false, false, false, false, false, false, false, false, false, false, false, false, false] l := rfl
attribute [go_sem] kt_ref04_Full_r
theorem kt_ref04_Full_j1 (l : List AV) : keepT i_ref04_Full_j1 l = keepT [false, true, false, true, false, false, false, false, false, false, false, false, false, false, false, false, false, false, false, false, false, false, false] l := rfl
attribute [go_sem] kt_ref04_Full_j1
theorem kt_ref04_Full_k0 (l : List AV) : keepT i_ref04_Full_k0 l = keepT [false, true, false, true, false, false, false, false, false, false, false, false, false, false, false, false, false, false, false, false, false, false, false] l := rfl
attribute [go_sem] kt_ref04_Full_k0
theorem kt_ref04_Full_j0 (l : List AV) : keepT i_ref04_Full_j0 l = keepT [false, false, false, false, false, false, false, false, false, false, false, false, false, false, false, false, false, false, false, false, false, false, false] l := rfl
attribute [go_sem] kt_ref04_Full_j0
theorem kt_ref04_List_r (l : List AV) : keepT i_ref04_List_r l = keepT [false, false, true, false, false, false, false, false, false, false, false, false, false, false, false, false, false, false, false, false, false, false, false, false, false, false] l := rfl
attribute [go_sem] kt_ref04_List_r
theorem kt_ref04_Depth_r (l : List AV) : keepT i_ref04_Depth_r l = keepT [false, false, true, false, false, false, false, false, false, false, false, false, false, false, false, false, false, false, false, false, false, false, false, false, false, false] l := rfl
attribute [go_sem] kt_ref04_Depth_r
theorem kt_ref06_Range_r (l : List AV) : keepT i_ref06_Range_r l = keepT [false, false, false, false, true, false, false, false, false, false, false, false, false, false, false, false, false, false, false, false, false, false, false, false, false, false, false, false, false, false, false, false, false, false, false, false, false, false, false, false] l := rfl
attribute [go_sem] kt_ref06_Range_r
theorem kt_ref06_Range_j1 (l : List AV) : keepT i_ref06_Range_j1 l = keepT [false, false, false, true, false, true, true, true, false, false, false, false, false, false, false, false, false, false, false, false, false, false, false, false, false, false, false, false, false, false, false, false, false, false, false, false, false, false, false, false] l := rfl
attribute [go_sem] kt_ref06_Range_j1
theorem kt_ref06_Range_k0 (l : List AV) : keepT i_ref06_Range_k0 l = keepT [false, false, false, true, false, true, true, true, false, false, false, false, false, false, false, false, false, false, false, false, false, false, false, false, false, false, false, false, false, false, false, false, false, false, false, false, false, false, false, false] l := rfl
attribute [go_sem] kt_ref06_Range_k0
theorem kt_ref06_Range_j0 (l : List AV) : keepT i_ref06_Range_j0 l = keepT [false, false, false, false, false, true, false, false, false, false, false, false, false, false, false, false, false, false, false, false, false, false, false, false, false, false, false, false, false, false, false, false, false, false, false, false, false, false, false, false] l := rfl
attribute [go_sem] kt_ref06_Range_j0
theorem kt_ref06_In_r (l : List AV) : keepT i_ref06_In_r l = keepT [false, false, false, false, true, false, false, false, false, false, false, false, false, false, false, false, false, false, false, false, false, false, false] l := rfl
attribute [go_sem] kt_ref06_In_r
theorem kt_ref06_Same_r (l : List AV) : keepT i_ref06_Same_r l = keepT [false, false, false, false, true, false, false, false, false, false, false, false, false, false, false, false, false, false, false, false, false, false, false, false, false, false, false, false, false, false, false, false, false, false, false, false, false, false, false, false, false, false, false, false, false] l := rfl
attribute [go_sem] kt_ref06_Same_r
theorem kt_ref06_Same_j1 (l : List AV) : keepT i_ref06_Same_j1 l = keepT [true, true, false, false, false, true, false, false, false, false, false, false, false, false, false, false, false, false, false, false, false, false, false, false, false, false, false, false, false, false, false, false, false, false, false, false, false, false, false, false, false, false, false, false, false] l := rfl
attribute [go_sem] kt_ref06_Same_j1
theorem kt_ref06_Same_k0 (l : List AV) : keepT i_ref06_Same_k0 l = keepT [true, true, false, false, false, true, false, false, false, false, false, false, false, false, false, false, false, false, false, false, false, false, false, false, false, false, false, false, false, false, false, false, false, false, false, false, false, false, false, false, false, false, false, false, false] l := rfl
attribute [go_sem] kt_ref06_Same_k0
theorem kt_ref06_Same_j0 (l : List AV) : keepT i_ref06_Same_j0 l = keepT [false, false, false, false, false, false, false, false, false, false, false, false, false, false, false, false, false, false, false, false, false, false, false, false, false, false, false, false, false, false, false, false, false, false, false, false, false, false, false, false, false, false, false, false, false] l := rfl
attribute [go_sem] kt_ref06_Same_j0
theorem kt_law05_AvlIs_r (l : List AV) : keepT i_law05_AvlIs_r l = keepT [false, false, true, false, false, false, false, false, false, false, false, false, false, false, false, false, false, false, false, false] l := rfl
attribute [go_sem] kt_law05_AvlIs_r
theorem kt_law05_up_r (l : List AV) : keepT i_law05_up_r l = keepT [true, false, false, false, false, false, false, false, false, false, false, false, false, false, false, false, false, false, false, false, false, false, false, false, false, false, false, false, false, false, false, false, false, false, false, false, false, false, false, false, false, false, false, false, false, false, false, false, false, false, false, false, false, false, false, false, false, false, false, false, false, false, false, false, false, false, false, false, false] l := rfl
attribute [go_sem] kt_law05_up_r
theorem kt_avl_Put_r (l : List AV) : keepT i_avl_Put_r l = keepT [false, false, false, false, false, false, true, true, false, false, false, false, false, false, false, false, false, false, false, false, false, false, false] l := rfl
attribute [go_sem] kt_avl_Put_r
theorem kt_avl_asked_r (l : List AV) : keepT i_avl_asked_r l = keepT [false, false, false, false, false, false, true, false, false, false, false, false, false, false, false, false, false, false, false, false, false, false] l := rfl
attribute [go_sem] kt_avl_asked_r
theorem kt_avl_asked_j0 (l : List AV) : keepT i_avl_asked_j0 l = keepT [false, false, false, false, false, false, false, false, false, false, false, false, false, false, false, false, false, false, false, false, false, false] l := rfl
attribute [go_sem] kt_avl_asked_j0
theorem kt_avl_put_r (l : List AV) : keepT i_avl_put_r l = keepT [false, false, false, false, false, false, true, false, false, false, false, false, false, false, false, false, false, false, false, false, false, false, false, false, false, false, false, false, false, false, false, false, false, false, false, false, false, false, false, false, false, false, false, false, false, false, false, false, false, false, false, false, false, false, false, false, false, false, false, false, false, false, false, false, false] l := rfl
attribute [go_sem] kt_avl_put_r
theorem kt_avl_put_j0 (l : List AV) : keepT i_avl_put_j0 l = keepT [false, true, true, true, false, false, true, true, true, false, false, false, false, false, false, false, false, false, false, false, false, false, false, false, false, false, false, false, false, false, false, false, false, false, false, false, false, false, false, false, false, false, false, false, false, false, false, false, false, false, false, false, false, false, false, false, false, false, false, false, false, false, false, false, false] l := rfl
attribute [go_sem] kt_avl_put_j0
theorem kt_avl_node_r (l : List AV) : keepT i_avl_node_r l = keepT [false, false, false, false, false, false, false, false, true, false, false, false, false, false, false] l := rfl
attribute [go_sem] kt_avl_node_r
theorem kt_avl_leveled_r (l : List AV) : keepT i_avl_leveled_r l = keepT [false, false, true, false, false, false, false, false, false, false, false, false, false, false, false, false, false, false, false, false, false, false, false, false, false, false, false, false, false, false, false, false, false, false, false, false, false, false, false, false, false, false, false, false, false, false, false, false, false, false, false, false, false, false, false, false, false, false, false, false, false, false, false, false, false, false, false, false] l := rfl
attribute [go_sem] kt_avl_leveled_r
theorem kt_avl_leveled_j0 (l : List AV) : keepT i_avl_leveled_j0 l = keepT [false, true, true, false, false, false, false, false, false, false, false, false, false, false, false, false, false, false, false, false, false, false, false, false, false, false, false, false, false, false, false, false, false, false, false, false, false, false, false, false, false, false, false, false, false, false, false, false, false, false, false, false, false, false, false, false, false, false, false, false, false, false, false, false, false, false, false, false] l := rfl
attribute [go_sem] kt_avl_leveled_j0
theorem kt_avl_depth_r (l : List AV) : keepT i_avl_depth_r l = keepT [false, false, true, false, false, false, false, false, false, false, false] l := rfl
attribute [go_sem] kt_avl_depth_r
theorem kt_avl_left_r (l : List AV) : keepT i_avl_left_r l = keepT [false, false, true, false, false, false, false, false, false, false, false, false, false, false, false, false, false, false, false, false, false, false, false, false, false, false, false, false, false, false] l := rfl
attribute [go_sem] kt_avl_left_r
theorem kt_avl_right_r (l : List AV) : keepT i_avl_right_r l = keepT [false, false, true, false, false, false, false, false, false, false, false, false, false, false, false, false, false, false, false, false, false, false, false, false, false, false, false, false, false, false] l := rfl
attribute [go_sem] kt_avl_right_r
theorem kt_avl_Get_r (l : List AV) : keepT i_avl_Get_r l = keepT [false, false, false, false, true, true, true, false, false, false, false, false, false, false, false, false, false, false, false, false, false, false, false, false, false, false, false, false, false, false, false, false, false, false, false, false, false, false, false, false] l := rfl
attribute [go_sem] kt_avl_Get_r
theorem kt_avl_Get_j2 (l : List AV) : keepT i_avl_Get_j2 l = keepT [false, true, true, false, false, false, false, false, false, false, false, false, false, false, false, false, false, false, false, false, false, false, false, false, false, false, false, false, false, false, false, false, false, false, false, false, false, false, false, false] l := rfl
attribute [go_sem] kt_avl_Get_j2
theorem kt_avl_Get_j1 (l : List AV) : keepT i_avl_Get_j1 l = keepT [false, true, true, false, false, false, false, false, false, false, false, false, false, false, false, false, false, false, false, false, false, false, false, false, false, false, false, false, false, false, false, false, false, false, false, false, false, false, false, false] l := rfl
attribute [go_sem] kt_avl_Get_j1
theorem kt_avl_Get_k0 (l : List AV) : keepT i_avl_Get_k0 l = keepT [false, true, true, false, false, false, false, false, false, false, false, false, false, false, false, false, false, false, false, false, false, false, false, false, false, false, false, false, false, false, false, false, false, false, false, false, false, false, false, false] l := rfl
attribute [go_sem] kt_avl_Get_k0
theorem kt_avl_Get_j0 (l : List AV) : keepT i_avl_Get_j0 l = keepT [false, false, false, false, false, false, false, false, false, false, false, false, false, false, false, false, false, false, false, false, false, false, false, false, false, false, false, false, false, false, false, false, false, false, false, false, false, false, false, false] l := rfl
attribute [go_sem] kt_avl_Get_j0
theorem kt_law05_small_r (l : List AV) : keepT i_law05_small_r l = keepT [false, false, true, false, false, false] l := rfl
attribute [go_sem] kt_law05_small_r
theorem kt_law05_AvlGets_r (l : List AV) : keepT i_law05_AvlGets_r l = keepT [false, false, false, false, true, false, false, false, false, false, false, false, false, false, false, false, false, false, false, false, false, false, false, false, false, false, false, false, false, false, false, false, false, false, false, false, false, false, false, false, false, false, false, false, false, false, false, false, false, false, false, false, false, false, false, false, false, false, false, false, false, false, false, false, false, false, false, false, false, false, false, false, false, false, false] l := rfl
attribute [go_sem] kt_law05_AvlGets_r
theorem kt_law05_asked_r (l : List AV) : keepT i_law05_asked_r l = keepT [false, false, false, false, false, false, true, false, false, false, false, false, false, false, false, false, false, false, false, false] l := rfl
attribute [go_sem] kt_law05_asked_r
theorem kt_law00_Code_r (l : List AV) : keepT i_law00_Code_r l = keepT [false, false, true, false, false, false, false, false, false, false, false, false, false, false, false] l := rfl
attribute [go_sem] kt_law00_Code_r
theorem kt_law00_Code_j1 (l : List AV) : keepT i_law00_Code_j1 l = keepT [true, false, false, true, false, false, false, false, false, false, false, false, false, false, false] l := rfl
attribute [go_sem] kt_law00_Code_j1
theorem kt_law00_Code_k0 (l : List AV) : keepT i_law00_Code_k0 l = keepT [true, false, false, true, false, false, false, false, false, false, false, false, false, false, false] l := rfl
attribute [go_sem] kt_law00_Code_k0
theorem kt_law00_Code_j0 (l : List AV) : keepT i_law00_Code_j0 l = keepT [false, false, false, false, false, false, false, false, false, false, false, false, false, false, false] l := rfl
attribute [go_sem] kt_law00_Code_j0
theorem kt_ref05_Get_r (l : List AV) : keepT i_ref05_Get_r l = keepT [false, false, false, false, true, true, false, false, false, false, false, false, false, false, false, false, false, false, false, false, false, false, false, false, false, false, false, false, false, false] l := rfl
attribute [go_sem] kt_ref05_Get_r
theorem kt_ref05_Get_j1 (l : List AV) : keepT i_ref05_Get_j1 l = keepT [false, true, false, false, false, false, true, true, false, false, false, false, false, false, false, false, false, false, false, false, false, false, false, false, false, false, false, false, false, false] l := rfl
attribute [go_sem] kt_ref05_Get_j1
theorem kt_ref05_Get_k0 (l : List AV) : keepT i_ref05_Get_k0 l = keepT [false, true, false, false, false, false, true, true, false, false, false, false, false, false, false, false, false, false, false, false, false, false, false, false, false, false, false, false, false, false] l := rfl
attribute [go_sem] kt_ref05_Get_k0
theorem kt_ref05_Get_j0 (l : List AV) : keepT i_ref05_Get_j0 l = keepT [false, false, false, false, false, false, false, false, false, false, false, false, false, false, false, false, false, false, false, false, false, false, false, false, false, false, false, false, false, false] l := rfl
attribute [go_sem] kt_ref05_Get_j0
theorem kt_law05_AvlPuts_r (l : List AV) : keepT i_law05_AvlPuts_r l = keepT [false, false, false, false, false, false, true, false, false, false, false, false, false, false, false, false, false, false, false, false, false, false, false, false, false, false, false, false, false, false, false, false, false, false, false, false, false, false, false, false, false, false, false, false, false, false, false, false, false, false, false, false, false, false, false, false, false, false, false, false, false, false, false, false, false, false] l := rfl
attribute [go_sem] kt_law05_AvlPuts_r
theorem kt_ref04_Same_r (l : List AV) : keepT i_ref04_Same_r l = keepT [false, false, false, false, true, false, false, false, false, false, false, false, false, false, false, false, false, false, false, false, false, false, false, false, false, false, false, false, false, false, false, false, false, false, false, false, false, false, false, false, false, false, false, false, false, false, false, false, false, false, false, false, false, false, false, false, false, false, false, false, false, false, false, false, false, false, false, false] l := rfl
attribute [go_sem] kt_ref04_Same_r
theorem kt_ref04_Same_j1 (l : List AV) : keepT i_ref04_Same_j1 l = keepT [false, false, true, true, false, true, false, false, false, false, false, false, false, false, false, false, false, false, false, false, false, false, false, false, false, false, false, false, false, false, false, false, false, false, false, false, false, false, false, false, false, false, false, false, false, false, false, false, false, false, false, false, false, false, false, false, false, false, false, false, false, false, false, false, false, false, false, false] l := rfl
attribute [go_sem] kt_ref04_Same_j1
theorem kt_ref04_Same_k0 (l : List AV) : keepT i_ref04_Same_k0 l = keepT [false, false, true, true, false, true, false, false, false, false, false, false, false, false, false, false, false, false, false, false, false, false, false, false, false, false, false, false, false, false, false, false, false, false, false, false, false, false, false, false, false, false, false, false, false, false, false, false, false, false, false, false, false, false, false, false, false, false, false, false, false, false, false, false, false, false, false, false] l := rfl
attribute [go_sem] kt_ref04_Same_k0
theorem kt_ref04_Same_j0 (l : List AV) : keepT i_ref04_Same_j0 l = keepT [false, false, false, false, false, false, false, false, false, false, false, false, false, false, false, false, false, false, false, false, false, false, false, false, false, false, false, false, false, false, false, false, false, false, false, false, false, false, false, false, false, false, false, false, false, false, false, false, false, false, false, false, false, false, false, false, false, false, false, false, false, false, false, false, false, false, false, false] l := rfl
attribute [go_sem] kt_ref04_Same_j0
theorem kt_ref05_Put_r (l : List AV) : keepT i_ref05_Put_r l = keepT [false, false, false, false, false, false, true, false, false, false, false, false, false, false, false, false, false, false, false, false, false, false, false, false, false, false, false, false, false, false, false, false, false, false, false, false, false, false, false, false, false, false, false, false, false, false, false, false, false, false, false, false, false, false, false, false, false, false, false, false, false, false, false, false, false, false, false, false, false, false, false, false, false] l := rfl
attribute [go_sem] kt_ref05_Put_r
theorem kt_ref05_Node_r (l : List AV) : keepT i_ref05_Node_r l = keepT [false, false, false, false, false, false, false, false, true, false, false, false, false, false, false] l := rfl
attribute [go_sem] kt_ref05_Node_r
theorem kt_ref05_level_r (l : List AV) : keepT i_ref05_level_r l = keepT [false, false, true, false, false, false, false, false, false, false, false, false, false, false, false, false, false, false, false, false, false, false, false, false, false, false, false, false, false, false, false, false, false, false, false, false, false, false, false, false, false, false, false, false, false, false, false, false, false, false, false, false, false, false, false] l := rfl
attribute [go_sem] kt_ref05_level_r
theorem kt_ref05_tilt_r (l : List AV) : keepT i_ref05_tilt_r l = keepT [false, false, true, false, false, false, false, false, false, false, false, false, false, false] l := rfl
attribute [go_sem] kt_ref05_tilt_r
theorem kt_ref05_left_r (l : List AV) : keepT i_ref05_left_r l = keepT [false, false, true, false, false, false, false, false, false, false, false, false, false, false, false, false, false, false, false, false, false, false, false, false, false, false, false, false, false, false] l := rfl
attribute [go_sem] kt_ref05_left_r
theorem kt_ref05_right_r (l : List AV) : keepT i_ref05_right_r l = keepT [false, false, true, false, false, false, false, false, false, false, false, false, false, false, false, false, false, false, false, false, false, false, false, false, false, false, false, false, false, false] l := rfl
attribute [go_sem] kt_ref05_right_r
theorem kt_law10_CodeWrites_r (l : List AV) : keepT i_law10_CodeWrites_r l = keepT [false, false, true, false, false, false, false, false, false, false, false, false, false, false, false, false, false, false, false, false, false, false, false, false, false, false, false, false, false, false, false, false, false, false, false, false, false, false, false] l := rfl
attribute [go_sem] kt_law10_CodeWrites_r
theorem kt_law10_up_r (l : List AV) : keepT i_law10_up_r l = keepT [true, false, false, false, false, false, false, false, false, false, false, false, false, false, false, false, false, false, false, false, false, false, false, false, false, false, false, false, false, false, false, false] l := rfl
attribute [go_sem] kt_law10_up_r
theorem kt_code_Write_r (l : List AV) : keepT i_code_Write_r l = keepT [false, false, true, true, false, false, false, false, false, false, false, false, false, false, false] l := rfl
attribute [go_sem] kt_code_Write_r
theorem kt_code_long_r (l : List AV) : keepT i_code_long_r l = keepT [false, false, true, false, false, false, false, false, false, false, false, false, false, false, false, false, false, false, false] l := rfl
attribute [go_sem] kt_code_long_r
theorem kt_code_long_j1 (l : List AV) : keepT i_code_long_j1 l = keepT [false, false, false, false, false, false, false, false, false, false, true, true, true, false, false, false, false, false, false] l := rfl
attribute [go_sem] kt_code_long_j1
theorem kt_code_long_k0 (l : List AV) : keepT i_code_long_k0 l = keepT [false, false, false, false, false, false, false, false, false, false, true, true, true, false, false, false, false, false, false] l := rfl
attribute [go_sem] kt_code_long_k0
theorem kt_code_long_j0 (l : List AV) : keepT i_code_long_j0 l = keepT [false, false, false, false, false, false, false, false, false, false, false, false, false, false, false, false, false, false, false] l := rfl
attribute [go_sem] kt_code_long_j0
theorem kt_code_write_r (l : List AV) : keepT i_code_write_r l = keepT [false, false, false, false, true, false, false, false, false, false, false, false, false, false, false, false, false, false, false, false, false, false, false, false, false, false, false, false, false, false, false, false, false, false, false, false, false, false, false, false, false, false, false, false, false, false, false, false, false, false, false, false, false, false, false, false] l := rfl
attribute [go_sem] kt_code_write_r
theorem kt_code_write_j0 (l : List AV) : keepT i_code_write_j0 l = keepT [true, false, false, true, false, false, false, false, false, false, false, false, false, false, false, false, false, false, false, false, false, false, false, false, false, false, false, false, false, false, false, false, false, false, false, false, false, false, false, false, false, false, false, false, false, false, false, false, false, false, false, false, false, false, false, false] l := rfl
attribute [go_sem] kt_code_write_j0
theorem kt_code_write_j2 (l : List AV) : keepT i_code_write_j2 l = keepT [true, false, false, false, false, false, false, false, false, false, false, false, false, false, false, false, false, false, false, false, false, false, false, false, false, false, false, false, false, false, false, false, false, false, false, false, false, false, false, false, false, false, false, false, false, true, true, true, false, false, false, false, false, false, false, false] l := rfl
attribute [go_sem] kt_code_write_j2
theorem kt_code_write_k0 (l : List AV) : keepT i_code_write_k0 l = keepT [true, false, false, false, false, false, false, false, false, false, false, false, false, false, false, false, false, false, false, false, false, false, false, false, false, false, false, false, false, false, false, false, false, false, false, false, false, false, false, false, false, false, false, false, false, true, true, true, false, false, false, false, false, false, false, false] l := rfl
attribute [go_sem] kt_code_write_k0
theorem kt_code_write_j1 (l : List AV) : keepT i_code_write_j1 l = keepT [true, false, false, false, false, false, false, false, false, false, false, false, false, false, false, false, false, false, false, false, false, false, false, false, false, false, false, false, false, false, false, false, false, false, false, false, false, false, false, false, false, false, false, false, false, false, false, false, false, false, false, false, false, false, false, false] l := rfl
attribute [go_sem] kt_code_write_j1
theorem kt_coder_Bytes_r (l : List AV) : keepT i_coder_Bytes_r l = keepT [false, false, true, false, false, false, false, false, false] l := rfl
attribute [go_sem] kt_coder_Bytes_r
theorem kt_coder_Number_r (l : List AV) : keepT i_coder_Number_r l = keepT [false, false, true, false, false, false, false, false, false, false, false, false, false, false, false, false, false, false, false, false, false, false, false, false, false, false, false, false, false, false, false, false, false, false, false, false, false, false, false, false, false, false, false] l := rfl
attribute [go_sem] kt_coder_Number_r
theorem kt_coder_Number_j1 (l : List AV) : keepT i_coder_Number_j1 l = keepT [true, false, false, true, false, false, false, false, false, false, false, false, false, false, false, false, false, false, false, false, false, false, false, false, false, false, false, false, false, false, false, false, false, false, false, false, false, false, false, false, false, false, false] l := rfl
attribute [go_sem] kt_coder_Number_j1
theorem kt_coder_Number_k0 (l : List AV) : keepT i_coder_Number_k0 l = keepT [true, false, false, true, false, false, false, false, false, false, false, false, false, false, false, false, false, false, false, false, false, false, false, false, false, false, false, false, false, false, false, false, false, false, false, false, false, false, false, false, false, false, false] l := rfl
attribute [go_sem] kt_coder_Number_k0
theorem kt_coder_Number_j0 (l : List AV) : keepT i_coder_Number_j0 l = keepT [true, false, false, true, false, false, false, false, false, false, false, false, false, false, false, false, false, false, false, false, false, false, false, false, false, false, false, false, false, false, false, false, false, false, false, false, false, false, false, false, false, false, false] l := rfl
attribute [go_sem] kt_coder_Number_j0
theorem kt_coder_Number_j3 (l : List AV) : keepT i_coder_Number_j3 l = keepT [true, false, false, true, true, false, false, false, false, false, false, false, false, false, false, false, false, false, false, false, false, false, false, false, false, false, true, true, false, false, false, false, false, false, false, false, false, false, false, false, false, false, false] l := rfl
attribute [go_sem] kt_coder_Number_j3
theorem kt_coder_Number_k1 (l : List AV) : keepT i_coder_Number_k1 l = keepT [true, false, false, true, true, false, false, false, false, false, false, false, false, false, false, false, false, false, false, false, false, false, false, false, false, false, true, true, false, false, false, false, false, false, false, false, false, false, false, false, false, false, false] l := rfl
attribute [go_sem] kt_coder_Number_k1
theorem kt_coder_Number_j2 (l : List AV) : keepT i_coder_Number_j2 l = keepT [false, false, false, false, true, false, false, false, false, false, false, false, false, false, false, false, false, false, false, false, false, false, false, false, false, false, false, false, false, false, false, false, false, false, false, false, false, false, false, false, false, false, false] l := rfl
attribute [go_sem] kt_coder_Number_j2
theorem kt_code_Read_r (l : List AV) : keepT i_code_Read_r l = keepT [false, false, true, true, false, false, false, false, false, false, false, false, false, false, false, false, false, false, false, false, false, false, false, false, false, false, false, false, false, false, false] l := rfl
attribute [go_sem] kt_code_Read_r
theorem kt_code_Read_j0 (l : List AV) : keepT i_code_Read_j0 l = keepT [false, false, true, false, false, false, false, true, false, false, false, false, false, false, false, false, false, false, false, false, false, false, false, false, false, false, false, false, false, false, false] l := rfl
attribute [go_sem] kt_code_Read_j0
theorem kt_coder_NewReader_r (l : List AV) : keepT i_coder_NewReader_r l = keepT [false, false, true, false, false, false, false] l := rfl
attribute [go_sem] kt_coder_NewReader_r
theorem kt_code_Read_1_r (l : List AV) : keepT i_code_Read_1_r l = keepT [false, false, false, false, false, true, false, false, false, false, false, false, false, false, false, false, false, false, false, false, false, false, false, false, false, false, false, false, false, false, false, false, false, false, false, false, false, false, false, false, false, false, false, false, false, false, false, false, false, false, false, false, false, false, false, false, false, false, false, false, false, false, false, false] l := rfl
attribute [go_sem] kt_code_Read_1_r
theorem kt_code_Read_1_j0 (l : List AV) : keepT i_code_Read_1_j0 l = keepT [true, true, true, true, false, true, true, false, false, false, false, false, false, false, false, false, false, false, false, false, false, false, false, false, false, false, false, false, false, false, false, false, false, false, false, false, false, false, false, false, false, false, false, false, false, false, false, false, false, false, false, false, false, false, false, false, false, false, false, false, false, false, false, false] l := rfl
attribute [go_sem] kt_code_Read_1_j0
theorem kt_coder_Reader_Byte_r (l : List AV) : keepT i_coder_Reader_Byte_r l = keepT [false, false, true, false, false, false, false, false, false, false, false, false] l := rfl
attribute [go_sem] kt_coder_Reader_Byte_r
theorem kt_coder_Reader_take_r (l : List AV) : keepT i_coder_Reader_take_r l = keepT [false, false, false, false, true, false, false, false, false, false, false, false, false, false, false, false, false, false, false, false, false, false, false, false, false, false, false, false, false, false, false, false, false, false, false, false, false, false, false] l := rfl
attribute [go_sem] kt_coder_Reader_take_r
theorem kt_coder_Reader_Bytes_r (l : List AV) : keepT i_coder_Reader_Bytes_r l = keepT [false, false, false, false, true, false, false, false, false, false, false, false, false, false, false, false, false, false, false, false, false, false, false, false, false, false, false, false, false, false, false, false, false, false, false, false, false, false, false] l := rfl
attribute [go_sem] kt_coder_Reader_Bytes_r
theorem kt_coder_Reader_Number_r (l : List AV) : keepT i_coder_Reader_Number_r l = keepT [false, false, true, false, false, false, false, false, false, false, false, false, false, false, false, false, false, false, false, false, false, false, false, false, false, false, false, false, false, false, false, false, false, false, false, false, false, false, false, false, false, false, false, false, false, false, false, false] l := rfl
attribute [go_sem] kt_coder_Reader_Number_r
theorem kt_coder_Reader_Number_j1 (l : List AV) : keepT i_coder_Reader_Number_j1 l = keepT [true, false, false, false, true, true, false, false, false, false, false, false, false, false, false, false, false, false, false, true, true, true, false, false, false, false, false, false, false, false, false, false, false, false, false, false, false, false, false, false, false, false, false, false, false, false, false, false] l := rfl
attribute [go_sem] kt_coder_Reader_Number_j1
theorem kt_coder_Reader_Number_k0 (l : List AV) : keepT i_coder_Reader_Number_k0 l = keepT [true, false, false, false, true, true, false, false, false, false, false, false, false, false, false, false, false, false, false, true, true, true, false, false, false, false, false, false, false, false, false, false, false, false, false, false, false, false, false, false, false, false, false, false, false, false, false, false] l := rfl
attribute [go_sem] kt_coder_Reader_Number_k0
theorem kt_coder_Reader_Number_j0 (l : List AV) : keepT i_coder_Reader_Number_j0 l = keepT [true, false, false, false, true, true, false, false, false, false, false, false, false, false, false, false, false, false, false, false, false, false, false, false, false, false, false, false, false, false, false, false, false, false, false, false, false, false, false, false, false, false, false, false, false, false, false, false] l := rfl
attribute [go_sem] kt_coder_Reader_Number_j0
theorem kt_coder_Reader_End_r (l : List AV) : keepT i_coder_Reader_End_r l = keepT [false, false, true, false, false, false, false, false, false, false, false, false, false, false, false, false, false] l := rfl
attribute [go_sem] kt_coder_Reader_End_r
theorem kt_coder_Reader_End_j0 (l : List AV) : keepT i_coder_Reader_End_j0 l = keepT [false, false, false, false, false, false, false, false, false, false, false, false, false, false, false, false, false] l := rfl
attribute [go_sem] kt_coder_Reader_End_j0
theorem kt_law10_small_r (l : List AV) : keepT i_law10_small_r l = keepT [false, false, true, false, false, false] l := rfl
attribute [go_sem] kt_law10_small_r
theorem kt_ref10_Write_r (l : List AV) : keepT i_ref10_Write_r l = keepT [false, false, true, true, false, false, false, false, false, false, false, false, false, false, false, false] l := rfl
attribute [go_sem] kt_ref10_Write_r
theorem kt_ref10_long_r (l : List AV) : keepT i_ref10_long_r l = keepT [false, false, true, false, false, false, false, false, false, false, false, false, false, false, false, false, false, false, false, false, false, false, false] l := rfl
attribute [go_sem] kt_ref10_long_r
theorem kt_ref10_long_j1 (l : List AV) : keepT i_ref10_long_j1 l = keepT [false, true, false, true, false, false, false, false, false, false, false, false, false, false, false, false, false, false, false, false, false, false, false] l := rfl
attribute [go_sem] kt_ref10_long_j1
theorem kt_ref10_long_k0 (l : List AV) : keepT i_ref10_long_k0 l = keepT [false, true, false, true, false, false, false, false, false, false, false, false, false, false, false, false, false, false, false, false, false, false, false] l := rfl
attribute [go_sem] kt_ref10_long_k0
theorem kt_ref10_long_j0 (l : List AV) : keepT i_ref10_long_j0 l = keepT [false, false, false, false, false, false, false, false, false, false, false, false, false, false, false, false, false, false, false, false, false, false, false] l := rfl
attribute [go_sem] kt_ref10_long_j0
theorem kt_ref10_bytes_r (l : List AV) : keepT i_ref10_bytes_r l = keepT [false, false, true, false, false, false, false, false, false, false, false, false, false, false, false, false, false, false, false, false, false, false, false, false, false, false, false, false, false, false, false, false, false, false, false, false, false, false, false, false, false, false, false, false, false, false, false, false, false, false, false, false, false, false] l := rfl
attribute [go_sem] kt_ref10_bytes_r
theorem kt_ref10_bytes_j1 (l : List AV) : keepT i_ref10_bytes_j1 l = keepT [false, true, false, true, true, false, false, false, false, false, false, false, false, false, false, false, false, false, false, false, false, false, false, false, false, false, false, false, false, false, false, false, false, false, false, false, false, false, false, false, false, false, false, false, false, false, false, false, false, false, false, false, false, false] l := rfl
attribute [go_sem] kt_ref10_bytes_j1
theorem kt_ref10_bytes_k0 (l : List AV) : keepT i_ref10_bytes_k0 l = keepT [false, true, false, true, true, false, false, false, false, false, false, false, false, false, false, false, false, false, false, false, false, false, false, false, false, false, false, false, false, false, false, false, false, false, false, false, false, false, false, false, false, false, false, false, false, false, false, false, false, false, false, false, false, false] l := rfl
attribute [go_sem] kt_ref10_bytes_k0
theorem kt_ref10_bytes_j0 (l : List AV) : keepT i_ref10_bytes_j0 l = keepT [false, false, false, true, false, false, false, false, false, false, false, false, false, false, false, false, false, false, false, false, false, false, false, false, false, false, false, false, false, false, false, false, false, false, false, false, false, false, false, false, false, false, false, false, false, false, false, false, false, false, false, false, false, false] l := rfl
attribute [go_sem] kt_ref10_bytes_j0
theorem kt_ref02_Bytes_r (l : List AV) : keepT i_ref02_Bytes_r l = keepT [false, false, true, false, false, false, false, false, false] l := rfl
attribute [go_sem] kt_ref02_Bytes_r
theorem kt_ref02_Number_r (l : List AV) : keepT i_ref02_Number_r l = keepT [false, false, true, false, false, false, false, false, false, false, false, false, false, false, false, false, false, false, false, false, false, false, false, false, false, false] l := rfl
attribute [go_sem] kt_ref02_Number_r
theorem kt_ref02_Number_j1 (l : List AV) : keepT i_ref02_Number_j1 l = keepT [true, false, false, true, false, false, false, false, false, false, false, false, false, false, false, false, false, false, false, false, false, false, false, false, false, false] l := rfl
attribute [go_sem] kt_ref02_Number_j1
theorem kt_ref02_Number_k0 (l : List AV) : keepT i_ref02_Number_k0 l = keepT [true, false, false, true, false, false, false, false, false, false, false, false, false, false, false, false, false, false, false, false, false, false, false, false, false, false] l := rfl
attribute [go_sem] kt_ref02_Number_k0
theorem kt_ref02_Number_j0 (l : List AV) : keepT i_ref02_Number_j0 l = keepT [false, false, false, true, false, false, false, false, false, false, false, false, false, false, false, false, false, false, false, false, false, false, false, false, false, false] l := rfl
attribute [go_sem] kt_ref02_Number_j0
theorem kt_law10_CodeReads_r (l : List AV) : keepT i_law10_CodeReads_r l = keepT [false, false, true, false, false, false, false, false, false, false, false, false, false, false, false, false, false, false, false, false, false, false, false, false, false, false, false, false, false, false, false, false, false, false, false] l := rfl
attribute [go_sem] kt_law10_CodeReads_r
theorem kt_ref10_Read_r (l : List AV) : keepT i_ref10_Read_r l = keepT [false, false, true, true, false, false, false, false, false, false, false, false, false, false, false, false, false, false, false] l := rfl
attribute [go_sem] kt_ref10_Read_r
theorem kt_ref10_read_r (l : List AV) : keepT i_ref10_read_r l = keepT [false, false, false, false, true, false, false, false, false, false, false, false, false, false, false, false, false, false, false, false, false, false, false, false, false, false, false, false, false, false, false, false, false, false, false, false, false, false, false, false, false, false, false, false, false, false, false, false, false, false, false, false, false, false, false, false, false, false, false, false, false, false, false, false, false, false, false, false, false, false, false, false, false, false, false, false, false] l := rfl
attribute [go_sem] kt_ref10_read_r
theorem kt_ref02_Reader_Byte_r (l : List AV) : keepT i_ref02_Reader_Byte_r l = keepT [false, false, true, false, false, false, false, false, false, false, false, false, false, false, false, false, false, false, false, false, false, false, false, false, false, false, false, false, false, false, false, false, false, false, false, false, false, false, false, false] l := rfl
attribute [go_sem] kt_ref02_Reader_Byte_r
theorem kt_ref02_Reader_Bytes_r (l : List AV) : keepT i_ref02_Reader_Bytes_r l = keepT [false, false, false, false, true, false, false, false, false, false, false, false, false, false, false, false, false, false, false, false, false, false, false, false, false, false, false, false, false, false, false, false, false, false, false, false, false, false, false, false, false, false, false, false, false, false, false, false, false, false, false, false, false, false, false, false, false, false, false, false, false, false, false, false, false, false, false, false, false, false] l := rfl
attribute [go_sem] kt_ref02_Reader_Bytes_r
theorem kt_ref02_Reader_Number_r (l : List AV) : keepT i_ref02_Reader_Number_r l = keepT [false, false, true, false, false, false, false, false, false, false, false, false, false, false, false, false, false, false, false, false, false, false, false, false, false, false, false, false, false, false, false, false, false, false, false, false, false, false, false, false, false, false, false, false, false, false, false, false, false, false, false, false, false, false, false, false, false, false, false, false, false, false, false, false, false, false, false, false, false, false, false, false, false, false, false, false, false, false, false, false, false, false, false, false, false, false] l := rfl
attribute [go_sem] kt_ref02_Reader_Number_r
theorem kt_ref02_Reader_Number_j1 (l : List AV) : keepT i_ref02_Reader_Number_j1 l = keepT [true, false, false, false, true, true, true, false, false, false, false, false, false, false, false, false, false, false, false, false, false, false, false, false, false, false, false, false, false, false, false, false, false, false, false, false, false, false, false, false, false, false, false, false, false, false, false, false, false, false, false, false, false, false, false, false, false, false, false, false, false, false, false, false, false, false, false, false, false, false, false, false, false, false, false, false, false, false, false, false, false, false, false, false, false, false] l := rfl
attribute [go_sem] kt_ref02_Reader_Number_j1
theorem kt_ref02_Reader_Number_k0 (l : List AV) : keepT i_ref02_Reader_Number_k0 l = keepT [true, false, false, false, true, true, true, false, false, false, false, false, false, false, false, false, false, false, false, false, false, false, false, false, false, false, false, false, false, false, false, false, false, false, false, false, false, false, false, false, false, false, false, false, false, false, false, false, false, false, false, false, false, false, false, false, false, false, false, false, false, false, false, false, false, false, false, false, false, false, false, false, false, false, false, false, false, false, false, false, false, false, false, false, false, false] l := rfl
attribute [go_sem] kt_ref02_Reader_Number_k0
theorem kt_ref02_Reader_Number_j0 (l : List AV) : keepT i_ref02_Reader_Number_j0 l = keepT [true, false, false, false, true, true, false, false, false, false, false, false, false, false, false, false, false, false, false, false, false, false, false, false, false, false, false, false, false, false, false, false, false, false, false, false, false, false, false, false, false, false, false, false, false, false, false, false, false, false, false, false, false, false, false, false, false, false, false, false, false, false, false, false, false, false, false, false, false, false, false, false, false, false, false, false, false, false, false, false, false, false, false, false, false, false] l := rfl
attribute [go_sem] kt_ref02_Reader_Number_j0
theorem kt_ref02_Reader_End_r (l : List AV) : keepT i_ref02_Reader_End_r l = keepT [false, false, true, false, false, false, false, false, false, false, false, false, false, false, false, false, false] l := rfl
attribute [go_sem] kt_ref02_Reader_End_r
theorem kt_law10_CodeBack_r (l : List AV) : keepT i_law10_CodeBack_r l = keepT [false, false, false, false, false, false, true, false, false, false, false, false, false, false, false, false, false, false, false, false, false, false, false, false, false, false, false, false, false, false, false, false, false, false, false, false, false, false, false, false, false, false, false, false, false, false, false, false, false, false, false, false, false, false, false, false, false, false, false, false, false, false, false, false, false, false, false, false, false, false, false, false, false, false, false, false, false, false, false, false, false, false, false, false, false, false, false, false, false, false, false, false, false, false, false, false, false, false, false, false, false, false, false, false, false, false, false, false, false, false] l := rfl
attribute [go_sem] kt_law10_CodeBack_r
theorem kt_law05_AvlDeletes_r (l : List AV) : keepT i_law05_AvlDeletes_r l = keepT [false, false, false, false, true, false, false, false, false, false, false, false, false, false, false, false, false, false, false, false, false, false, false, false, false, false, false, false, false, false, false, false, false, false, false, false, false, false, false, false, false, false, false, false, false, false, false, false, false, false, false, false, false, false, false, false, false, false, false, false, false, false, false, false, false, false, false, false, false, false, false, false, false, false, false] l := rfl
attribute [go_sem] kt_law05_AvlDeletes_r
theorem kt_avl_Delete_r (l : List AV) : keepT i_avl_Delete_r l = keepT [false, false, false, false, true, true, true, false, false, false, false, false, false, false, false, false, false, false, false, false, false, false, false, false, false, false, false, false, false] l := rfl
attribute [go_sem] kt_avl_Delete_r
theorem kt_avl_Delete_j0 (l : List AV) : keepT i_avl_Delete_j0 l = keepT [false, true, true, false, true, false, false, false, false, false, false, false, false, false, false, false, false, false, false, false, false, false, false, false, false, false, false, false, false] l := rfl
attribute [go_sem] kt_avl_Delete_j0
theorem kt_avl_take_r (l : List AV) : keepT i_avl_take_r l = keepT [false, false, false, false, true, false, false, false, false, false, false, false, false, false, false, false, false, false, false, false, false, false, false, false, false, false, false, false, false, false, false, false, false, false, false, false, false, false, false, false, false, false, false, false, false, false, false, false, false, false, false, false, false, false, false, false, false, false, false, false, false, false, false, false, false, false, false, false, false, false, false, false, false, false, false, false, false, false, false, false, false, false, false, false, false, false, false] l := rfl
attribute [go_sem] kt_avl_take_r
theorem kt_avl_take_j0 (l : List AV) : keepT i_avl_take_j0 l = keepT [false, false, false, false, true, true, true, false, false, false, false, false, false, false, false, false, false, false, false, false, false, false, false, false, false, false, false, false, false, false, false, false, false, false, false, false, false, false, false, false, false, false, false, false, false, false, false, false, false, false, false, false, false, false, false, false, false, false, false, false, false, false, false, false, false, false, false, false, false, false, false, false, false, false, false, false, false, false, false, false, false, false, false, false, false, false, false] l := rfl
attribute [go_sem] kt_avl_take_j0
theorem kt_avl_take_j2 (l : List AV) : keepT i_avl_take_j2 l = keepT [false, false, false, false, true, true, true, false, true, false, false, false, false, false, false, false, false, false, false, false, false, false, false, false, false, false, false, false, false, false, false, false, false, false, false, false, false, false, false, false, false, false, false, false, false, false, false, false, false, false, false, false, false, false, false, false, false, false, false, false, false, false, false, false, false, false, false, false, false, false, false, false, false, false, false, false, false, false, false, false, false, false, false, false, false, false, false] l := rfl
attribute [go_sem] kt_avl_take_j2
theorem kt_avl_take_k0 (l : List AV) : keepT i_avl_take_k0 l = keepT [false, false, false, false, true, true, true, false, true, false, false, false, false, false, false, false, false, false, false, false, false, false, false, false, false, false, false, false, false, false, false, false, false, false, false, false, false, false, false, false, false, false, false, false, false, false, false, false, false, false, false, false, false, false, false, false, false, false, false, false, false, false, false, false, false, false, false, false, false, false, false, false, false, false, false, false, false, false, false, false, false, false, false, false, false, false, false] l := rfl
attribute [go_sem] kt_avl_take_k0
theorem kt_avl_take_j1 (l : List AV) : keepT i_avl_take_j1 l = keepT [false, false, false, false, true, true, true, false, true, false, false, false, false, false, false, false, false, false, false, false, false, false, false, false, false, false, false, false, false, false, false, false, false, false, false, false, false, false, false, false, false, false, false, false, false, false, false, false, false, false, false, false, false, false, false, false, false, false, false, false, false, false, false, false, false, false, false, false, false, false, false, false, false, false, false, false, false, false, false, false, false, false, false, false, false, false, false] l := rfl
attribute [go_sem] kt_avl_take_j1
theorem kt_ref05_Delete_r (l : List AV) : keepT i_ref05_Delete_r l = keepT [false, false, false, false, true, false, false, false, false, false, false, false, false, false, false, false, false, false, false, false, false, false, false, false, false, false, false, false, false, false, false, false, false, false, false, false, false, false, false, false, false, false, false, false, false, false, false, false, false, false, false, false, false, false, false, false, false, false, false, false, false, false, false, false, false, false, false, false, false, false, false, false, false, false, false, false, false, false] l := rfl
attribute [go_sem] kt_ref05_Delete_r
theorem kt_law05_AvlHolds_r (l : List AV) : keepT i_law05_AvlHolds_r l = keepT [false, false, true, false, false, false, false, false, false, false, false, false, false, false, false, false, false, false, false, false, false, false, false, false, false, false, false, false, false, false, false, false, false, false, false, false, false, false, false, false, false, false, false, false, false, false, false, false, false, false, false, false, false, false, false, false, false, false, false, false, false, false, false, false, false, false, false, false, false, false, false, false, false, false, false, false, false, false, false, false, false, false, false, false, false, false, false, false, false, false, false, false, false, false, false, false, false, false, false, false, false, false, false, false, false, false, false, false, false, false, false, false, false, false, false, false, false, false, false, false, false, false, false, false, false, false, false, false, false, false, false, false, false, false, false, false, false, false, false, false, false, false, false, false, false, false, false, false, false, false, false, false, false, false] l := rfl
attribute [go_sem] kt_law05_AvlHolds_r
theorem kt_law05_AvlHolds_j3 (l : List AV) : keepT i_law05_AvlHolds_j3 l = keepT [true, false, false, true, true, true, true, true, true, true, true, false, false, false, false, false, false, false, false, false, false, false, false, false, false, false, false, false, false, false, false, false, false, false, false, false, false, false, false, false, false, false, false, false, false, false, false, false, false, false, false, false, false, false, false, false, false, false, false, false, false, false, false, false, false, false, false, false, false, false, false, false, false, false, false, false, false, false, false, false, false, false, false, false, false, false, false, false, false, false, false, false, false, false, false, false, false, false, false, false, false, false, false, false, false, false, false, false, false, false, false, false, false, false, false, false, false, false, false, false, false, false, false, false, false, false, false, false, false, false, false, false, false, false, false, false, false, false, false, false, false, false, false, false, false, false, false, false, false, false, false, false, false, false] l := rfl
attribute [go_sem] kt_law05_AvlHolds_j3
theorem kt_law05_AvlHolds_k1 (l : List AV) : keepT i_law05_AvlHolds_k1 l = keepT [true, false, false, true, true, true, true, true, true, true, true, false, false, false, false, false, false, false, false, false, false, false, false, false, false, false, false, false, false, false, false, false, false, false, false, false, false, false, false, false, false, false, false, false, false, false, false, false, false, false, false, false, false, false, false, false, false, false, false, false, false, false, false, false, false, false, false, false, false, false, false, false, false, false, false, false, false, false, false, false, false, false, false, false, false, false, false, false, false, false, false, false, false, false, false, false, false, false, false, false, false, false, false, false, false, false, false, false, false, false, false, false, false, false, false, false, false, false, false, false, false, false, false, false, false, false, false, false, false, false, false, false, false, false, false, false, false, false, false, false, false, false, false, false, false, false, false, false, false, false, false, false, false, false] l := rfl
attribute [go_sem] kt_law05_AvlHolds_k1
theorem kt_law05_AvlHolds_j2 (l : List AV) : keepT i_law05_AvlHolds_j2 l = keepT [true, false, false, true, true, false, true, true, true, true, false, false, false, false, false, false, false, false, false, false, false, false, false, false, false, false, false, false, false, false, false, false, false, false, false, false, false, false, false, false, false, false, false, false, false, false, false, false, false, false, false, false, false, false, false, false, false, false, false, false, false, false, false, false, false, false, false, false, false, false, false, false, false, false, false, false, false, false, false, false, false, false, false, false, false, false, false, false, false, false, false, false, false, false, false, false, false, false, false, false, false, false, false, false, false, false, false, false, false, false, false, false, false, false, false, false, false, false, false, false, false, false, false, false, false, false, false, false, false, false, false, false, false, false, false, false, false, false, false, false, false, false, false, false, false, false, false, false, false, false, false, false, false, false] l := rfl
attribute [go_sem] kt_law05_AvlHolds_j2
theorem kt_law05_AvlHolds_j1 (l : List AV) : keepT i_law05_AvlHolds_j1 l = keepT [true, false, false, true, true, true, true, false, false, false, false, false, false, false, false, false, false, false, false, false, false, false, false, false, false, false, false, false, false, false, false, false, false, false, false, false, false, false, false, false, false, false, false, false, false, false, false, false, false, false, false, false, false, false, false, false, false, false, false, false, false, false, false, false, false, false, false, false, false, false, false, false, false, false, false, false, false, false, false, false, false, false, false, false, false, false, false, false, false, false, false, false, false, false, false, false, false, false, false, false, false, false, false, false, false, false, false, false, false, false, false, false, false, false, false, false, false, false, false, false, false, false, false, false, false, false, false, false, false, false, false, false, false, false, false, false, false, false, false, false, false, false, false, false, false, false, false, false, false, false, false, false, false, false] l := rfl
attribute [go_sem] kt_law05_AvlHolds_j1
theorem kt_law05_AvlHolds_k0 (l : List AV) : keepT i_law05_AvlHolds_k0 l = keepT [true, false, false, true, true, true, true, false, false, false, false, false, false, false, false, false, false, false, false, false, false, false, false, false, false, false, false, false, false, false, false, false, false, false, false, false, false, false, false, false, false, false, false, false, false, false, false, false, false, false, false, false, false, false, false, false, false, false, false, false, false, false, false, false, false, false, false, false, false, false, false, false, false, false, false, false, false, false, false, false, false, false, false, false, false, false, false, false, false, false, false, false, false, false, false, false, false, false, false, false, false, false, false, false, false, false, false, false, false, false, false, false, false, false, false, false, false, false, false, false, false, false, false, false, false, false, false, false, false, false, false, false, false, false, false, false, false, false, false, false, false, false, false, false, false, false, false, false, false, false, false, false, false, false] l := rfl
attribute [go_sem] kt_law05_AvlHolds_k0
theorem kt_law05_AvlHolds_j0 (l : List AV) : keepT i_law05_AvlHolds_j0 l = keepT [false, false, false, true, true, true, false, false, false, false, false, false, false, false, false, false, false, false, false, false, false, false, false, false, false, false, false, false, false, false, false, false, false, false, false, false, false, false, false, false, false, false, false, false, false, false, false, false, false, false, false, false, false, false, false, false, false, false, false, false, false, false, false, false, false, false, false, false, false, false, false, false, false, false, false, false, false, false, false, false, false, false, false, false, false, false, false, false, false, false, false, false, false, false, false, false, false, false, false, false, false, false, false, false, false, false, false, false, false, false, false, false, false, false, false, false, false, false, false, false, false, false, false, false, false, false, false, false, false, false, false, false, false, false, false, false, false, false, false, false, false, false, false, false, false, false, false, false, false, false, false, false, false, false] l := rfl
attribute [go_sem] kt_law05_AvlHolds_j0
theorem kt_law05_AvlHolds_j5 (l : List AV) : keepT i_law05_AvlHolds_j5 l = keepT [false, false, false, true, true, true, false, false, false, false, false, false, false, false, false, false, true, false, false, false, false, false, false, false, false, false, false, false, false, false, false, false, false, false, false, false, false, false, false, false, false, false, false, false, false, false, false, false, false, false, false, false, false, false, false, false, false, false, false, false, false, false, false, false, false, false, false, false, false, false, false, false, false, false, false, false, false, false, false, false, false, false, false, false, false, false, false, false, false, false, false, false, false, false, false, false, false, false, false, false, false, false, false, false, false, false, false, false, false, false, false, false, false, false, false, false, false, false, false, false, false, false, false, false, false, false, false, false, false, false, false, false, false, false, false, false, false, false, false, false, false, false, false, false, false, false, false, false, false, false, false, false, false, false] l := rfl
attribute [go_sem] kt_law05_AvlHolds_j5
theorem kt_law05_AvlHolds_k2 (l : List AV) : keepT i_law05_AvlHolds_k2 l = keepT [false, false, false, true, true, true, false, false, false, false, false, false, false, false, false, false, true, false, false, false, false, false, false, false, false, false, false, false, false, false, false, false, false, false, false, false, false, false, false, false, false, false, false, false, false, false, false, false, false, false, false, false, false, false, false, false, false, false, false, false, false, false, false, false, false, false, false, false, false, false, false, false, false, false, false, false, false, false, false, false, false, false, false, false, false, false, false, false, false, false, false, false, false, false, false, false, false, false, false, false, false, false, false, false, false, false, false, false, false, false, false, false, false, false, false, false, false, false, false, false, false, false, false, false, false, false, false, false, false, false, false, false, false, false, false, false, false, false, false, false, false, false, false, false, false, false, false, false, false, false, false, false, false, false] l := rfl
attribute [go_sem] kt_law05_AvlHolds_k2
theorem kt_law05_AvlHolds_j4 (l : List AV) : keepT i_law05_AvlHolds_j4 l = keepT [false, false, false, true, false, false, false, false, false, false, false, false, false, false, false, false, false, false, false, false, false, false, false, false, false, false, false, false, false, false, false, false, false, false, false, false, false, false, false, false, false, false, false, false, false, false, false, false, false, false, false, false, false, false, false, false, false, false, false, false, false, false, false, false, false, false, false, false, false, false, false, false, false, false, false, false, false, false, false, false, false, false, false, false, false, false, false, false, false, false, false, false, false, false, false, false, false, false, false, false, false, false, false, false, false, false, false, false, false, false, false, false, false, false, false, false, false, false, false, false, false, false, false, false, false, false, false, false, false, false, false, false, false, false, false, false, false, false, false, false, false, false, false, false, false, false, false, false, false, false, false, false, false, false] l := rfl
attribute [go_sem] kt_law05_AvlHolds_j4
noncomputable def L_ref04_Light_0 (st : St) : Option (Ex × St) := lp tab G0 1 i_ref04_Light_k0 i_ref04_Light_b0 st
theorem L_ref04_Light_0_eq (st : St) : L_ref04_Light_0 st = againL L_ref04_Light_0 1 i_ref04_Light_k0 (app tab G0 1 [] (ex tab G0 1 i_ref04_Light_b0 st)) := lp_eq tab G0 1 i_ref04_Light_k0 i_ref04_Light_b0 st
theorem L_ref04_Light_0_in (K : List Fr) (st : St) : app tab G0 1 K (ex tab G0 1 (.loop i_ref04_Light_k0 i_ref04_Light_b0) st) = app tab G0 1 K (L_ref04_Light_0 (clean 1 i_ref04_Light_k0 st)) := rfl
attribute [go_sem] L_ref04_Light_0_in
noncomputable def L_scan_Range_0 (st : St) : Option (Ex × St) := lp tab G0 4 i_scan_Range_k0 i_scan_Range_b0 st
theorem L_scan_Range_0_eq (st : St) : L_scan_Range_0 st = againL L_scan_Range_0 4 i_scan_Range_k0 (app tab G0 4 [] (ex tab G0 4 i_scan_Range_b0 st)) := lp_eq tab G0 4 i_scan_Range_k0 i_scan_Range_b0 st
theorem L_scan_Range_0_in (K : List Fr) (st : St) : app tab G0 4 K (ex tab G0 4 (.loop i_scan_Range_k0 i_scan_Range_b0) st) = app tab G0 4 K (L_scan_Range_0 (clean 4 i_scan_Range_k0 st)) := rfl
attribute [go_sem] L_scan_Range_0_in
noncomputable def L_avl_Is_0 (st : St) : Option (Ex × St) := lp tab G0 1 i_avl_Is_k0 i_avl_Is_b0 st
theorem L_avl_Is_0_eq (st : St) : L_avl_Is_0 st = againL L_avl_Is_0 1 i_avl_Is_k0 (app tab G0 1 [] (ex tab G0 1 i_avl_Is_b0 st)) := lp_eq tab G0 1 i_avl_Is_k0 i_avl_Is_b0 st
theorem L_avl_Is_0_in (K : List Fr) (st : St) : app tab G0 1 K (ex tab G0 1 (.loop i_avl_Is_k0 i_avl_Is_b0) st) = app tab G0 1 K (L_avl_Is_0 (clean 1 i_avl_Is_k0 st)) := rfl
attribute [go_sem] L_avl_Is_0_in
noncomputable def L_slices_IndexFunc_sl_api_Tree_api_Tree_0 (st : St) : Option (Ex × St) := lp tab G0 0 i_slices_IndexFunc_sl_api_Tree_api_Tree_k0 i_slices_IndexFunc_sl_api_Tree_api_Tree_b0 st
theorem L_slices_IndexFunc_sl_api_Tree_api_Tree_0_eq (st : St) : L_slices_IndexFunc_sl_api_Tree_api_Tree_0 st = againL L_slices_IndexFunc_sl_api_Tree_api_Tree_0 0 i_slices_IndexFunc_sl_api_Tree_api_Tree_k0 (app tab G0 0 [] (ex tab G0 0 i_slices_IndexFunc_sl_api_Tree_api_Tree_b0 st)) := lp_eq tab G0 0 i_slices_IndexFunc_sl_api_Tree_api_Tree_k0 i_slices_IndexFunc_sl_api_Tree_api_Tree_b0 st
theorem L_slices_IndexFunc_sl_api_Tree_api_Tree_0_in (K : List Fr) (st : St) : app tab G0 0 K (ex tab G0 0 (.loop i_slices_IndexFunc_sl_api_Tree_api_Tree_k0 i_slices_IndexFunc_sl_api_Tree_api_Tree_b0) st) = app tab G0 0 K (L_slices_IndexFunc_sl_api_Tree_api_Tree_0 (clean 0 i_slices_IndexFunc_sl_api_Tree_api_Tree_k0 st)) := rfl
attribute [go_sem] L_slices_IndexFunc_sl_api_Tree_api_Tree_0_in
noncomputable def L_ref05_Is_0 (st : St) : Option (Ex × St) := lp tab G0 1 i_ref05_Is_k0 i_ref05_Is_b0 st
theorem L_ref05_Is_0_eq (st : St) : L_ref05_Is_0 st = againL L_ref05_Is_0 1 i_ref05_Is_k0 (app tab G0 1 [] (ex tab G0 1 i_ref05_Is_b0 st)) := lp_eq tab G0 1 i_ref05_Is_k0 i_ref05_Is_b0 st
theorem L_ref05_Is_0_in (K : List Fr) (st : St) : app tab G0 1 K (ex tab G0 1 (.loop i_ref05_Is_k0 i_ref05_Is_b0) st) = app tab G0 1 K (L_ref05_Is_0 (clean 1 i_ref05_Is_k0 st)) := rfl
attribute [go_sem] L_ref05_Is_0_in
noncomputable def L_ref04_Deep_0 (st : St) : Option (Ex × St) := lp tab G0 1 i_ref04_Deep_k0 i_ref04_Deep_b0 st
theorem L_ref04_Deep_0_eq (st : St) : L_ref04_Deep_0 st = againL L_ref04_Deep_0 1 i_ref04_Deep_k0 (app tab G0 1 [] (ex tab G0 1 i_ref04_Deep_b0 st)) := lp_eq tab G0 1 i_ref04_Deep_k0 i_ref04_Deep_b0 st
theorem L_ref04_Deep_0_in (K : List Fr) (st : St) : app tab G0 1 K (ex tab G0 1 (.loop i_ref04_Deep_k0 i_ref04_Deep_b0) st) = app tab G0 1 K (L_ref04_Deep_0 (clean 1 i_ref04_Deep_k0 st)) := rfl
attribute [go_sem] L_ref04_Deep_0_in
noncomputable def L_ref04_Formed_0 (st : St) : Option (Ex × St) := lp tab G0 1 i_ref04_Formed_k0 i_ref04_Formed_b0 st
theorem L_ref04_Formed_0_eq (st : St) : L_ref04_Formed_0 st = againL L_ref04_Formed_0 1 i_ref04_Formed_k0 (app tab G0 1 [] (ex tab G0 1 i_ref04_Formed_b0 st)) := lp_eq tab G0 1 i_ref04_Formed_k0 i_ref04_Formed_b0 st
theorem L_ref04_Formed_0_in (K : List Fr) (st : St) : app tab G0 1 K (ex tab G0 1 (.loop i_ref04_Formed_k0 i_ref04_Formed_b0) st) = app tab G0 1 K (L_ref04_Formed_0 (clean 1 i_ref04_Formed_k0 st)) := rfl
attribute [go_sem] L_ref04_Formed_0_in
noncomputable def L_ref04_Full_0 (st : St) : Option (Ex × St) := lp tab G0 1 i_ref04_Full_k0 i_ref04_Full_b0 st
theorem L_ref04_Full_0_eq (st : St) : L_ref04_Full_0 st = againL L_ref04_Full_0 1 i_ref04_Full_k0 (app tab G0 1 [] (ex tab G0 1 i_ref04_Full_b0 st)) := lp_eq tab G0 1 i_ref04_Full_k0 i_ref04_Full_b0 st
theorem L_ref04_Full_0_in (K : List Fr) (st : St) : app tab G0 1 K (ex tab G0 1 (.loop i_ref04_Full_k0 i_ref04_Full_b0) st) = app tab G0 1 K (L_ref04_Full_0 (clean 1 i_ref04_Full_k0 st)) := rfl
attribute [go_sem] L_ref04_Full_0_in
noncomputable def L_ref06_Range_0 (st : St) : Option (Ex × St) := lp tab G0 3 i_ref06_Range_k0 i_ref06_Range_b0 st
theorem L_ref06_Range_0_eq (st : St) : L_ref06_Range_0 st = againL L_ref06_Range_0 3 i_ref06_Range_k0 (app tab G0 3 [] (ex tab G0 3 i_ref06_Range_b0 st)) := lp_eq tab G0 3 i_ref06_Range_k0 i_ref06_Range_b0 st
theorem L_ref06_Range_0_in (K : List Fr) (st : St) : app tab G0 3 K (ex tab G0 3 (.loop i_ref06_Range_k0 i_ref06_Range_b0) st) = app tab G0 3 K (L_ref06_Range_0 (clean 3 i_ref06_Range_k0 st)) := rfl
attribute [go_sem] L_ref06_Range_0_in
noncomputable def L_ref06_Same_0 (st : St) : Option (Ex × St) := lp tab G0 0 i_ref06_Same_k0 i_ref06_Same_b0 st
theorem L_ref06_Same_0_eq (st : St) : L_ref06_Same_0 st = againL L_ref06_Same_0 0 i_ref06_Same_k0 (app tab G0 0 [] (ex tab G0 0 i_ref06_Same_b0 st)) := lp_eq tab G0 0 i_ref06_Same_k0 i_ref06_Same_b0 st
theorem L_ref06_Same_0_in (K : List Fr) (st : St) : app tab G0 0 K (ex tab G0 0 (.loop i_ref06_Same_k0 i_ref06_Same_b0) st) = app tab G0 0 K (L_ref06_Same_0 (clean 0 i_ref06_Same_k0 st)) := rfl
attribute [go_sem] L_ref06_Same_0_in
noncomputable def L_avl_Get_0 (st : St) : Option (Ex × St) := lp tab G0 1 i_avl_Get_k0 i_avl_Get_b0 st
theorem L_avl_Get_0_eq (st : St) : L_avl_Get_0 st = againL L_avl_Get_0 1 i_avl_Get_k0 (app tab G0 1 [] (ex tab G0 1 i_avl_Get_b0 st)) := lp_eq tab G0 1 i_avl_Get_k0 i_avl_Get_b0 st
theorem L_avl_Get_0_in (K : List Fr) (st : St) : app tab G0 1 K (ex tab G0 1 (.loop i_avl_Get_k0 i_avl_Get_b0) st) = app tab G0 1 K (L_avl_Get_0 (clean 1 i_avl_Get_k0 st)) := rfl
attribute [go_sem] L_avl_Get_0_in
noncomputable def L_law00_Code_0 (st : St) : Option (Ex × St) := lp tab G0 0 i_law00_Code_k0 i_law00_Code_b0 st
theorem L_law00_Code_0_eq (st : St) : L_law00_Code_0 st = againL L_law00_Code_0 0 i_law00_Code_k0 (app tab G0 0 [] (ex tab G0 0 i_law00_Code_b0 st)) := lp_eq tab G0 0 i_law00_Code_k0 i_law00_Code_b0 st
theorem L_law00_Code_0_in (K : List Fr) (st : St) : app tab G0 0 K (ex tab G0 0 (.loop i_law00_Code_k0 i_law00_Code_b0) st) = app tab G0 0 K (L_law00_Code_0 (clean 0 i_law00_Code_k0 st)) := rfl
attribute [go_sem] L_law00_Code_0_in
noncomputable def L_ref05_Get_0 (st : St) : Option (Ex × St) := lp tab G0 1 i_ref05_Get_k0 i_ref05_Get_b0 st
theorem L_ref05_Get_0_eq (st : St) : L_ref05_Get_0 st = againL L_ref05_Get_0 1 i_ref05_Get_k0 (app tab G0 1 [] (ex tab G0 1 i_ref05_Get_b0 st)) := lp_eq tab G0 1 i_ref05_Get_k0 i_ref05_Get_b0 st
theorem L_ref05_Get_0_in (K : List Fr) (st : St) : app tab G0 1 K (ex tab G0 1 (.loop i_ref05_Get_k0 i_ref05_Get_b0) st) = app tab G0 1 K (L_ref05_Get_0 (clean 1 i_ref05_Get_k0 st)) := rfl
attribute [go_sem] L_ref05_Get_0_in
noncomputable def L_ref04_Same_0 (st : St) : Option (Ex × St) := lp tab G0 2 i_ref04_Same_k0 i_ref04_Same_b0 st
theorem L_ref04_Same_0_eq (st : St) : L_ref04_Same_0 st = againL L_ref04_Same_0 2 i_ref04_Same_k0 (app tab G0 2 [] (ex tab G0 2 i_ref04_Same_b0 st)) := lp_eq tab G0 2 i_ref04_Same_k0 i_ref04_Same_b0 st
theorem L_ref04_Same_0_in (K : List Fr) (st : St) : app tab G0 2 K (ex tab G0 2 (.loop i_ref04_Same_k0 i_ref04_Same_b0) st) = app tab G0 2 K (L_ref04_Same_0 (clean 2 i_ref04_Same_k0 st)) := rfl
attribute [go_sem] L_ref04_Same_0_in
noncomputable def L_code_long_0 (st : St) : Option (Ex × St) := lp tab G0 2 i_code_long_k0 i_code_long_b0 st
theorem L_code_long_0_eq (st : St) : L_code_long_0 st = againL L_code_long_0 2 i_code_long_k0 (app tab G0 2 [] (ex tab G0 2 i_code_long_b0 st)) := lp_eq tab G0 2 i_code_long_k0 i_code_long_b0 st
theorem L_code_long_0_in (K : List Fr) (st : St) : app tab G0 2 K (ex tab G0 2 (.loop i_code_long_k0 i_code_long_b0) st) = app tab G0 2 K (L_code_long_0 (clean 2 i_code_long_k0 st)) := rfl
attribute [go_sem] L_code_long_0_in
noncomputable def L_code_write_0 (st : St) : Option (Ex × St) := lp tab G0 4 i_code_write_k0 i_code_write_b0 st
theorem L_code_write_0_eq (st : St) : L_code_write_0 st = againL L_code_write_0 4 i_code_write_k0 (app tab G0 4 [] (ex tab G0 4 i_code_write_b0 st)) := lp_eq tab G0 4 i_code_write_k0 i_code_write_b0 st
theorem L_code_write_0_in (K : List Fr) (st : St) : app tab G0 4 K (ex tab G0 4 (.loop i_code_write_k0 i_code_write_b0) st) = app tab G0 4 K (L_code_write_0 (clean 4 i_code_write_k0 st)) := rfl
attribute [go_sem] L_code_write_0_in
noncomputable def L_coder_Number_0 (st : St) : Option (Ex × St) := lp tab G0 1 i_coder_Number_k0 i_coder_Number_b0 st
theorem L_coder_Number_0_eq (st : St) : L_coder_Number_0 st = againL L_coder_Number_0 1 i_coder_Number_k0 (app tab G0 1 [] (ex tab G0 1 i_coder_Number_b0 st)) := lp_eq tab G0 1 i_coder_Number_k0 i_coder_Number_b0 st
theorem L_coder_Number_0_in (K : List Fr) (st : St) : app tab G0 1 K (ex tab G0 1 (.loop i_coder_Number_k0 i_coder_Number_b0) st) = app tab G0 1 K (L_coder_Number_0 (clean 1 i_coder_Number_k0 st)) := rfl
attribute [go_sem] L_coder_Number_0_in
noncomputable def L_coder_Number_1 (st : St) : Option (Ex × St) := lp tab G0 1 i_coder_Number_k1 i_coder_Number_b1 st
theorem L_coder_Number_1_eq (st : St) : L_coder_Number_1 st = againL L_coder_Number_1 1 i_coder_Number_k1 (app tab G0 1 [] (ex tab G0 1 i_coder_Number_b1 st)) := lp_eq tab G0 1 i_coder_Number_k1 i_coder_Number_b1 st
theorem L_coder_Number_1_in (K : List Fr) (st : St) : app tab G0 1 K (ex tab G0 1 (.loop i_coder_Number_k1 i_coder_Number_b1) st) = app tab G0 1 K (L_coder_Number_1 (clean 1 i_coder_Number_k1 st)) := rfl
attribute [go_sem] L_coder_Number_1_in
noncomputable def L_coder_Reader_Number_0 (st : St) : Option (Ex × St) := lp tab G0 0 i_coder_Reader_Number_k0 i_coder_Reader_Number_b0 st
theorem L_coder_Reader_Number_0_eq (st : St) : L_coder_Reader_Number_0 st = againL L_coder_Reader_Number_0 0 i_coder_Reader_Number_k0 (app tab G0 0 [] (ex tab G0 0 i_coder_Reader_Number_b0 st)) := lp_eq tab G0 0 i_coder_Reader_Number_k0 i_coder_Reader_Number_b0 st
theorem L_coder_Reader_Number_0_in (K : List Fr) (st : St) : app tab G0 0 K (ex tab G0 0 (.loop i_coder_Reader_Number_k0 i_coder_Reader_Number_b0) st) = app tab G0 0 K (L_coder_Reader_Number_0 (clean 0 i_coder_Reader_Number_k0 st)) := rfl
attribute [go_sem] L_coder_Reader_Number_0_in
noncomputable def L_ref10_long_0 (st : St) : Option (Ex × St) := lp tab G0 1 i_ref10_long_k0 i_ref10_long_b0 st
theorem L_ref10_long_0_eq (st : St) : L_ref10_long_0 st = againL L_ref10_long_0 1 i_ref10_long_k0 (app tab G0 1 [] (ex tab G0 1 i_ref10_long_b0 st)) := lp_eq tab G0 1 i_ref10_long_k0 i_ref10_long_b0 st
theorem L_ref10_long_0_in (K : List Fr) (st : St) : app tab G0 1 K (ex tab G0 1 (.loop i_ref10_long_k0 i_ref10_long_b0) st) = app tab G0 1 K (L_ref10_long_0 (clean 1 i_ref10_long_k0 st)) := rfl
attribute [go_sem] L_ref10_long_0_in
noncomputable def L_ref10_bytes_0 (st : St) : Option (Ex × St) := lp tab G0 2 i_ref10_bytes_k0 i_ref10_bytes_b0 st
theorem L_ref10_bytes_0_eq (st : St) : L_ref10_bytes_0 st = againL L_ref10_bytes_0 2 i_ref10_bytes_k0 (app tab G0 2 [] (ex tab G0 2 i_ref10_bytes_b0 st)) := lp_eq tab G0 2 i_ref10_bytes_k0 i_ref10_bytes_b0 st
theorem L_ref10_bytes_0_in (K : List Fr) (st : St) : app tab G0 2 K (ex tab G0 2 (.loop i_ref10_bytes_k0 i_ref10_bytes_b0) st) = app tab G0 2 K (L_ref10_bytes_0 (clean 2 i_ref10_bytes_k0 st)) := rfl
attribute [go_sem] L_ref10_bytes_0_in
noncomputable def L_ref02_Number_0 (st : St) : Option (Ex × St) := lp tab G0 2 i_ref02_Number_k0 i_ref02_Number_b0 st
theorem L_ref02_Number_0_eq (st : St) : L_ref02_Number_0 st = againL L_ref02_Number_0 2 i_ref02_Number_k0 (app tab G0 2 [] (ex tab G0 2 i_ref02_Number_b0 st)) := lp_eq tab G0 2 i_ref02_Number_k0 i_ref02_Number_b0 st
theorem L_ref02_Number_0_in (K : List Fr) (st : St) : app tab G0 2 K (ex tab G0 2 (.loop i_ref02_Number_k0 i_ref02_Number_b0) st) = app tab G0 2 K (L_ref02_Number_0 (clean 2 i_ref02_Number_k0 st)) := rfl
attribute [go_sem] L_ref02_Number_0_in
noncomputable def L_ref02_Reader_Number_0 (st : St) : Option (Ex × St) := lp tab G0 0 i_ref02_Reader_Number_k0 i_ref02_Reader_Number_b0 st
theorem L_ref02_Reader_Number_0_eq (st : St) : L_ref02_Reader_Number_0 st = againL L_ref02_Reader_Number_0 0 i_ref02_Reader_Number_k0 (app tab G0 0 [] (ex tab G0 0 i_ref02_Reader_Number_b0 st)) := lp_eq tab G0 0 i_ref02_Reader_Number_k0 i_ref02_Reader_Number_b0 st
theorem L_ref02_Reader_Number_0_in (K : List Fr) (st : St) : app tab G0 0 K (ex tab G0 0 (.loop i_ref02_Reader_Number_k0 i_ref02_Reader_Number_b0) st) = app tab G0 0 K (L_ref02_Reader_Number_0 (clean 0 i_ref02_Reader_Number_k0 st)) := rfl
attribute [go_sem] L_ref02_Reader_Number_0_in
noncomputable def L_avl_take_0 (st : St) : Option (Ex × St) := lp tab G0 5 i_avl_take_k0 i_avl_take_b0 st
theorem L_avl_take_0_eq (st : St) : L_avl_take_0 st = againL L_avl_take_0 5 i_avl_take_k0 (app tab G0 5 [] (ex tab G0 5 i_avl_take_b0 st)) := lp_eq tab G0 5 i_avl_take_k0 i_avl_take_b0 st
theorem L_avl_take_0_in (K : List Fr) (st : St) : app tab G0 5 K (ex tab G0 5 (.loop i_avl_take_k0 i_avl_take_b0) st) = app tab G0 5 K (L_avl_take_0 (clean 5 i_avl_take_k0 st)) := rfl
attribute [go_sem] L_avl_take_0_in
noncomputable def L_law05_AvlHolds_1 (st : St) : Option (Ex × St) := lp tab G0 5 i_law05_AvlHolds_k1 i_law05_AvlHolds_b1 st
theorem L_law05_AvlHolds_1_eq (st : St) : L_law05_AvlHolds_1 st = againL L_law05_AvlHolds_1 5 i_law05_AvlHolds_k1 (app tab G0 5 [] (ex tab G0 5 i_law05_AvlHolds_b1 st)) := lp_eq tab G0 5 i_law05_AvlHolds_k1 i_law05_AvlHolds_b1 st
theorem L_law05_AvlHolds_1_in (K : List Fr) (st : St) : app tab G0 5 K (ex tab G0 5 (.loop i_law05_AvlHolds_k1 i_law05_AvlHolds_b1) st) = app tab G0 5 K (L_law05_AvlHolds_1 (clean 5 i_law05_AvlHolds_k1 st)) := rfl
attribute [go_sem] L_law05_AvlHolds_1_in
noncomputable def L_law05_AvlHolds_0 (st : St) : Option (Ex × St) := lp tab G0 5 i_law05_AvlHolds_k0 i_law05_AvlHolds_b0 st
theorem L_law05_AvlHolds_0_eq (st : St) : L_law05_AvlHolds_0 st = againL L_law05_AvlHolds_0 5 i_law05_AvlHolds_k0 (app tab G0 5 [] (ex tab G0 5 i_law05_AvlHolds_b0 st)) := lp_eq tab G0 5 i_law05_AvlHolds_k0 i_law05_AvlHolds_b0 st
theorem L_law05_AvlHolds_0_in (K : List Fr) (st : St) : app tab G0 5 K (ex tab G0 5 (.loop i_law05_AvlHolds_k0 i_law05_AvlHolds_b0) st) = app tab G0 5 K (L_law05_AvlHolds_0 (clean 5 i_law05_AvlHolds_k0 st)) := rfl
attribute [go_sem] L_law05_AvlHolds_0_in
noncomputable def L_law05_AvlHolds_2 (st : St) : Option (Ex × St) := lp tab G0 5 i_law05_AvlHolds_k2 i_law05_AvlHolds_b2 st
theorem L_law05_AvlHolds_2_eq (st : St) : L_law05_AvlHolds_2 st = againL L_law05_AvlHolds_2 5 i_law05_AvlHolds_k2 (app tab G0 5 [] (ex tab G0 5 i_law05_AvlHolds_b2 st)) := lp_eq tab G0 5 i_law05_AvlHolds_k2 i_law05_AvlHolds_b2 st
theorem L_law05_AvlHolds_2_in (K : List Fr) (st : St) : app tab G0 5 K (ex tab G0 5 (.loop i_law05_AvlHolds_k2 i_law05_AvlHolds_b2) st) = app tab G0 5 K (L_law05_AvlHolds_2 (clean 5 i_law05_AvlHolds_k2 st)) := rfl
attribute [go_sem] L_law05_AvlHolds_2_in
end Go.Proofs.Ytebiajdkgpcidaa
