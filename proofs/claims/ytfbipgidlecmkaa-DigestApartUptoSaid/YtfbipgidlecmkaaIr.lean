/- The IR of the seat's functions, printed by a program of this session. -/
import Derived.Test.YtfbipgidlecmkaaIrP0
set_option linter.unusedVariables false
namespace Go.Proofs.Ytfbipgidlecmkaa
open Go.Ev

def i_law03_DigestApart_r : List Bool := [false, false, false, false, false, false, false, false, false, false, true, false, false, false, false, false, false, false, false, false, false, false, false, false, false, false, false, false, false, false, false, false, false, false, false, false, false, false, false, false, false, false, false, false, false, false, false, false, false, false, false, false, false, false, false, false, false, false, false, false, false, false, false, false, false, false, false, false, false, false, false, false, false, false, false, false, false, false, false, false, false, false, false, false, false, false, false, false, false, false, false, false, false, false, false, false, false, false, false, false, false, false, false, false, false, false, false, false, false, false, false, false, false, false, false, false, false, false, false, false, false, false, false, false, false, false, false, false, false, false, false, false, false, false, false, false, false, false, false, false, false, false, false, false, false, false, false, false, false, false, false, false, false, false, false, false, false, false, false, false, false, false, false, false, false, false, false, false, false, false, false, false, false, false, false, false, false, false, false, false, false, false, false, false, false, false, false, false, false, false, false, false, false, false, false, false, false, false, false]
def i_law03_DigestApart_j1 : List Bool := [true, true, true, true, true, false, false, false, false, false, false, true, false, true, true, true, false, false, false, false, false, false, false, false, false, false, false, false, false, false, false, false, false, false, false, false, false, false, false, false, false, false, false, false, false, false, false, false, false, false, false, false, false, false, false, false, false, false, false, false, false, false, false, false, false, false, false, false, false, false, false, false, false, false, false, false, false, false, false, false, false, false, false, false, false, false, false, false, false, false, false, false, false, false, false, false, false, false, false, false, false, false, false, false, false, false, false, false, false, false, false, false, false, false, false, false, false, false, false, false, false, false, false, false, false, false, false, false, false, false, false, false, false, false, false, false, false, false, false, false, false, false, false, false, false, false, false, false, false, false, false, false, false, false, false, false, false, false, false, false, false, false, false, false, false, false, false, false, false, false, false, false, false, false, false, false, false, false, false, false, false, false, false, false, false, false, false, false, false, false, false, false, false, false, false, false, false, false, false]
def i_law03_DigestApart_k0 : List Bool := [true, true, true, true, true, false, false, false, false, false, false, true, false, true, true, true, false, false, false, false, false, false, false, false, false, false, false, false, false, false, false, false, false, false, false, false, false, false, false, false, false, false, false, false, false, false, false, false, false, false, false, false, false, false, false, false, false, false, false, false, false, false, false, false, false, false, false, false, false, false, false, false, false, false, false, false, false, false, false, false, false, false, false, false, false, false, false, false, false, false, false, false, false, false, false, false, false, false, false, false, false, false, false, false, false, false, false, false, false, false, false, false, false, false, false, false, false, false, false, false, false, false, false, false, false, false, false, false, false, false, false, false, false, false, false, false, false, false, false, false, false, false, false, false, false, false, false, false, false, false, false, false, false, false, false, false, false, false, false, false, false, false, false, false, false, false, false, false, false, false, false, false, false, false, false, false, false, false, false, false, false, false, false, false, false, false, false, false, false, false, false, false, false, false, false, false, false, false, false]
def i_law03_DigestApart_j0 : List Bool := [true, true, true, false, false, false, false, false, false, false, false, true, false, true, true, false, false, false, false, false, false, false, false, false, false, false, false, false, false, false, false, false, false, false, false, false, false, false, false, false, false, false, false, false, false, false, false, false, false, false, false, false, false, false, false, false, false, false, false, false, false, false, false, false, false, false, false, false, false, false, false, false, false, false, false, false, false, false, false, false, false, false, false, false, false, false, false, false, false, false, false, false, false, false, false, false, false, false, false, false, false, false, false, false, false, false, false, false, false, false, false, false, false, false, false, false, false, false, false, false, false, false, false, false, false, false, false, false, false, false, false, false, false, false, false, false, false, false, false, false, false, false, false, false, false, false, false, false, false, false, false, false, false, false, false, false, false, false, false, false, false, false, false, false, false, false, false, false, false, false, false, false, false, false, false, false, false, false, false, false, false, false, false, false, false, false, false, false, false, false, false, false, false, false, false, false, false, false, false]
abbrev s_law03_DigestApart_K0 (t0 t1 t2 t3 t4 t11 t13 t14 t15 : AV) (h : Heap) : St := ⟨[t0, t1, t2, t3, t4, .undef, .undef, .undef, .undef, .undef, .undef, t11, .undef, t13, t14, t15, .undef, .undef, .undef, .undef, .undef, .undef, .undef, .undef, .undef, .undef, .undef, .undef, .undef, .undef, .undef, .undef, .undef, .undef, .undef, .undef, .undef, .undef, .undef, .undef, .undef, .undef, .undef, .undef, .undef, .undef, .undef, .undef, .undef, .undef, .undef, .undef, .undef, .undef, .undef, .undef, .undef, .undef, .undef, .undef, .undef, .undef, .undef, .undef, .undef, .undef, .undef, .undef, .undef, .undef, .undef, .undef, .undef, .undef, .undef, .undef, .undef, .undef, .undef, .undef, .undef, .undef, .undef, .undef, .undef, .undef, .undef, .undef, .undef, .undef, .undef, .undef, .undef, .undef, .undef, .undef, .undef, .undef, .undef, .undef, .undef, .undef, .undef, .undef, .undef, .undef, .undef, .undef, .undef, .undef, .undef, .undef, .undef, .undef, .undef, .undef, .undef, .undef, .undef, .undef, .undef, .undef, .undef, .undef, .undef, .undef, .undef, .undef, .undef, .undef, .undef, .undef, .undef, .undef, .undef, .undef, .undef, .undef, .undef, .undef, .undef, .undef, .undef, .undef, .undef, .undef, .undef, .undef, .undef, .undef, .undef, .undef, .undef, .undef, .undef, .undef, .undef, .undef, .undef, .undef, .undef, .undef, .undef, .undef, .undef, .undef, .undef, .undef, .undef, .undef, .undef, .undef, .undef, .undef, .undef, .undef, .undef, .undef, .undef, .undef, .undef, .undef, .undef, .undef, .undef, .undef, .undef, .undef, .undef, .undef, .undef, .undef, .undef, .undef, .undef, .undef, .undef, .undef, .undef], h⟩
def i_law03_DigestApart_b0 : IR :=
  (.seq
   (.seq
    (.reg [] [
      ⟨(some 38), .mv (.t 15), none, []⟩,
      ⟨(some 39), .mv (.t 0), none, []⟩,
      ⟨(some 40), .bin .plain .lss (.t 38) (.t 39), none, []⟩])
    (.cond (.t 40)
     .skip
     (.exit 0 i_law03_DigestApart_j0)))
   (.seq
    (.block 1 i_law03_DigestApart_j1
     (.seq
      (.seq
       (.reg [] [
         ⟨(some 43), .mv (.t 15), none, []⟩,
         ⟨(some 44), .cn (.t 3), none, []⟩,
         ⟨(some 45), .len false (.t 44), none, []⟩,
         ⟨(some 46), .bin .plain .lss (.t 43) (.t 45), none, []⟩])
       (.cond (.t 46)
        (.reg [] [
          ⟨(some 47), .mv (.t 13), none, []⟩,
          ⟨(some 48), .mv (.t 15), none, []⟩,
          ⟨(some 49), .cn (.t 3), none, []⟩,
          ⟨(some 50), .mv (.t 15), none, []⟩,
          ⟨(some 51), .ia 1 (.t 49) (.t 50), none, []⟩,
          ⟨(some 52), .load false 1 (.t 51), none, []⟩,
          ⟨(some 53), .ia 1 (.t 47) (.t 48), none, []⟩,
          ⟨none, .store 1 (.t 53) (.t 52), none, []⟩])
        .skip))
      (.seq
       (.reg [] [
         ⟨(some 54), .mv (.t 15), none, []⟩,
         ⟨(some 55), .cn (.t 4), none, []⟩,
         ⟨(some 56), .len false (.t 55), none, []⟩,
         ⟨(some 57), .bin .plain .lss (.t 54) (.t 56), none, []⟩])
       (.cond (.t 57)
        (.reg [] [
          ⟨(some 58), .mv (.t 14), none, []⟩,
          ⟨(some 59), .mv (.t 15), none, []⟩,
          ⟨(some 60), .cn (.t 4), none, []⟩,
          ⟨(some 61), .mv (.t 15), none, []⟩,
          ⟨(some 62), .ia 1 (.t 60) (.t 61), none, []⟩,
          ⟨(some 63), .load false 1 (.t 62), none, []⟩,
          ⟨(some 64), .ia 1 (.t 58) (.t 59), none, []⟩,
          ⟨none, .store 1 (.t 64) (.t 63), none, []⟩])
        .skip))))
    (.reg [] [
      ⟨(some 41), .mv (.t 15), none, []⟩,
      ⟨(some 42), .bin .plain .add (.t 41) (.k (.int .i64 1)), none, []⟩,
      ⟨(some 15), .mv (.t 42), none, []⟩])))

abbrev s_law03_DigestApart_J0 (t0 t1 t2 t11 t13 t14 : AV) (h : Heap) : St := ⟨[t0, t1, t2, .undef, .undef, .undef, .undef, .undef, .undef, .undef, .undef, t11, .undef, t13, t14, .undef, .undef, .undef, .undef, .undef, .undef, .undef, .undef, .undef, .undef, .undef, .undef, .undef, .undef, .undef, .undef, .undef, .undef, .undef, .undef, .undef, .undef, .undef, .undef, .undef, .undef, .undef, .undef, .undef, .undef, .undef, .undef, .undef, .undef, .undef, .undef, .undef, .undef, .undef, .undef, .undef, .undef, .undef, .undef, .undef, .undef, .undef, .undef, .undef, .undef, .undef, .undef, .undef, .undef, .undef, .undef, .undef, .undef, .undef, .undef, .undef, .undef, .undef, .undef, .undef, .undef, .undef, .undef, .undef, .undef, .undef, .undef, .undef, .undef, .undef, .undef, .undef, .undef, .undef, .undef, .undef, .undef, .undef, .undef, .undef, .undef, .undef, .undef, .undef, .undef, .undef, .undef, .undef, .undef, .undef, .undef, .undef, .undef, .undef, .undef, .undef, .undef, .undef, .undef, .undef, .undef, .undef, .undef, .undef, .undef, .undef, .undef, .undef, .undef, .undef, .undef, .undef, .undef, .undef, .undef, .undef, .undef, .undef, .undef, .undef, .undef, .undef, .undef, .undef, .undef, .undef, .undef, .undef, .undef, .undef, .undef, .undef, .undef, .undef, .undef, .undef, .undef, .undef, .undef, .undef, .undef, .undef, .undef, .undef, .undef, .undef, .undef, .undef, .undef, .undef, .undef, .undef, .undef, .undef, .undef, .undef, .undef, .undef, .undef, .undef, .undef, .undef, .undef, .undef, .undef, .undef, .undef, .undef, .undef, .undef, .undef, .undef, .undef, .undef, .undef, .undef, .undef, .undef, .undef], h⟩
/-- heartwood/heartwoodlaw03.DigestApart -/
def i_law03_DigestApart : Ev.Fn := ⟨5, 199, 2,
  (.seq
   (.reg [] [
     ⟨(some 10), .mv (.k (.bool false)), none, []⟩])
   (.seq
    (.reg [] [
      ⟨(some 28), .qcall n_law03_up [] [], none, []⟩,
      ⟨(some 11), .mv (.t 28), none, []⟩])
    (.seq
     (.reg [] [
       ⟨(some 29), .mv (.t 0), none, []⟩,
       ⟨(some 30), .qcall n_law03_may [(.t 29)] [], none, []⟩,
       ⟨(some 12), .mv (.t 30), none, []⟩])
     (.seq
      (.seq
       (.reg [] [
         ⟨(some 31), .mv (.t 12), none, []⟩,
         ⟨(some 32), .un .not (.t 31), none, []⟩])
       (.cond (.t 32)
        (.seq
         (.reg [] [
           ⟨(some 33), .mv (.t 11), none, []⟩,
           ⟨(some 10), .mv (.t 33), none, []⟩])
         (.ret i_law03_DigestApart_r))
        .skip))
      (.seq
       (.reg [] [
         ⟨(some 34), .mv (.t 0), none, []⟩,
         ⟨(some 35), .make 0 ty_uint8 1 1 [(.int .u8 0)] (.t 34) (.t 34), none, []⟩,
         ⟨(some 13), .mv (.t 35), none, []⟩])
       (.seq
        (.reg [] [
          ⟨(some 36), .mv (.t 0), none, []⟩,
          ⟨(some 37), .make 1 ty_uint8 1 1 [(.int .u8 0)] (.t 36) (.t 36), none, []⟩,
          ⟨(some 14), .mv (.t 37), none, []⟩])
        (.seq
         (.seq
          (.reg [] [
            ⟨(some 15), .mv (.k (.int .i64 0)), none, []⟩])
          (.block 0 i_law03_DigestApart_j0
           (.loop i_law03_DigestApart_k0 i_law03_DigestApart_b0)))
         (.seq
          (.reg [] [
            ⟨(some 66), .mv (.t 0), none, []⟩,
            ⟨(some 67), .cn (.t 1), none, []⟩,
            ⟨(some 68), .cn (.t 13), none, []⟩,
            ⟨(some 69), .qcall n_digest_Pair [(.t 66), (.t 67), (.t 68)] [], none, [68]⟩,
            ⟨(some 65), .mv (.t 69), none, []⟩,
            ⟨(some 70), .ext 0 (.t 65), none, []⟩,
            ⟨(some 71), .ext 1 (.t 65), none, []⟩,
            ⟨(some 16), .cn (.t 70), none, []⟩,
            ⟨(some 17), .mv (.t 71), none, []⟩])
          (.seq
           (.reg [] [
             ⟨(some 73), .mv (.t 0), none, []⟩,
             ⟨(some 74), .cn (.t 2), none, []⟩,
             ⟨(some 75), .cn (.t 14), none, []⟩,
             ⟨(some 76), .qcall n_digest_Pair [(.t 73), (.t 74), (.t 75)] [], none, [75]⟩,
             ⟨(some 72), .mv (.t 76), none, []⟩,
             ⟨(some 77), .ext 0 (.t 72), none, []⟩,
             ⟨(some 78), .ext 1 (.t 72), none, []⟩,
             ⟨(some 18), .cn (.t 77), none, []⟩,
             ⟨(some 19), .mv (.t 78), none, []⟩])
           (.seq
            (.reg [] [
              ⟨(some 80), .mv (.t 0), none, []⟩,
              ⟨(some 81), .cn (.t 13), none, []⟩,
              ⟨(some 82), .cn (.t 14), none, []⟩,
              ⟨(some 83), .cn (.t 13), none, []⟩,
              ⟨(some 84), .qcall n_digest_Node [(.t 80), (.t 81), (.t 82), (.t 83)] [], none, [81, 82, 83]⟩,
              ⟨(some 79), .mv (.t 84), none, []⟩,
              ⟨(some 85), .ext 0 (.t 79), none, []⟩,
              ⟨(some 86), .ext 1 (.t 79), none, []⟩,
              ⟨(some 20), .cn (.t 85), none, []⟩,
              ⟨(some 21), .mv (.t 86), none, []⟩])
            (.seq
             (.reg [] [
               ⟨(some 88), .mv (.t 0), none, []⟩,
               ⟨(some 89), .cn (.t 14), none, []⟩,
               ⟨(some 90), .cn (.t 13), none, []⟩,
               ⟨(some 91), .cn (.t 13), none, []⟩,
               ⟨(some 92), .qcall n_digest_Node [(.t 88), (.t 89), (.t 90), (.t 91)] [], none, [89, 90, 91]⟩,
               ⟨(some 87), .mv (.t 92), none, []⟩,
               ⟨(some 93), .ext 0 (.t 87), none, []⟩,
               ⟨(some 94), .ext 1 (.t 87), none, []⟩,
               ⟨(some 22), .cn (.t 93), none, []⟩,
               ⟨(some 23), .mv (.t 94), none, []⟩])
             (.seq
              (.seq
               (.reg [] [
                 ⟨(some 95), .mv (.t 17), none, []⟩,
                 ⟨(some 96), .bin (.iface ty_api_Code true) .neq (.t 95) (.k .nilIface), none, []⟩,
                 ⟨(some 97), .mv (.t 96), none, []⟩,
                 ⟨(some 98), .mv (.t 19), (some (97, false)), []⟩,
                 ⟨(some 99), .bin (.iface ty_api_Code true) .neq (.t 98) (.k .nilIface), (some (97, false)), []⟩,
                 ⟨(some 100), .pick (.t 97) (.k (.bool true)) (.t 99), none, []⟩,
                 ⟨(some 101), .mv (.t 100), none, []⟩,
                 ⟨(some 102), .mv (.t 21), (some (101, false)), []⟩,
                 ⟨(some 103), .bin (.iface ty_api_Code true) .neq (.t 102) (.k .nilIface), (some (101, false)), []⟩,
                 ⟨(some 104), .pick (.t 101) (.k (.bool true)) (.t 103), none, []⟩,
                 ⟨(some 105), .mv (.t 104), none, []⟩,
                 ⟨(some 106), .mv (.t 23), (some (105, false)), []⟩,
                 ⟨(some 107), .bin (.iface ty_api_Code true) .neq (.t 106) (.k .nilIface), (some (105, false)), []⟩,
                 ⟨(some 108), .pick (.t 105) (.k (.bool true)) (.t 107), none, []⟩])
               (.cond (.t 108)
                (.seq
                 (.reg [] [
                   ⟨(some 10), .mv (.k (.bool false)), none, []⟩])
                 (.ret i_law03_DigestApart_r))
                .skip))
              (.seq
               (.reg [] [
                 ⟨(some 109), .cn (.t 16), none, []⟩,
                 ⟨(some 110), .b2s (.t 109), none, []⟩,
                 ⟨(some 111), .cn (.t 18), none, []⟩,
                 ⟨(some 112), .b2s (.t 111), none, []⟩,
                 ⟨(some 113), .bin .plain .eql (.t 110) (.t 112), none, []⟩,
                 ⟨(some 114), .cn (.t 1), none, []⟩,
                 ⟨(some 115), .b2s (.t 114), none, []⟩,
                 ⟨(some 116), .cn (.t 2), none, []⟩,
                 ⟨(some 117), .b2s (.t 116), none, []⟩,
                 ⟨(some 118), .bin .plain .eql (.t 115) (.t 117), none, []⟩,
                 ⟨(some 119), .mv (.t 118), none, []⟩,
                 ⟨(some 120), .cn (.t 13), (some (119, true)), []⟩,
                 ⟨(some 121), .b2s (.t 120), (some (119, true)), []⟩,
                 ⟨(some 122), .cn (.t 14), (some (119, true)), []⟩,
                 ⟨(some 123), .b2s (.t 122), (some (119, true)), []⟩,
                 ⟨(some 124), .bin .plain .eql (.t 121) (.t 123), (some (119, true)), []⟩,
                 ⟨(some 125), .pick (.t 119) (.t 124) (.k (.bool false)), none, []⟩,
                 ⟨(some 126), .bin .bool .eql (.t 113) (.t 125), none, []⟩,
                 ⟨(some 24), .mv (.t 126), none, []⟩])
               (.seq
                (.reg [] [
                  ⟨(some 127), .cn (.t 20), none, []⟩,
                  ⟨(some 128), .b2s (.t 127), none, []⟩,
                  ⟨(some 129), .cn (.t 22), none, []⟩,
                  ⟨(some 130), .b2s (.t 129), none, []⟩,
                  ⟨(some 131), .bin .plain .eql (.t 128) (.t 130), none, []⟩,
                  ⟨(some 132), .cn (.t 13), none, [13]⟩,
                  ⟨(some 133), .b2s (.t 132), none, []⟩,
                  ⟨(some 134), .cn (.t 14), none, [14]⟩,
                  ⟨(some 135), .b2s (.t 134), none, []⟩,
                  ⟨(some 136), .bin .plain .eql (.t 133) (.t 135), none, []⟩,
                  ⟨(some 137), .bin .bool .eql (.t 131) (.t 136), none, []⟩,
                  ⟨(some 25), .mv (.t 137), none, []⟩])
                (.seq
                 (.reg [] [
                   ⟨(some 138), .cn (.t 1), none, []⟩,
                   ⟨(some 139), .qcall n_digest_Value [(.t 138)] [], none, []⟩,
                   ⟨(some 140), .b2s (.t 139), none, []⟩,
                   ⟨(some 141), .cn (.t 2), none, []⟩,
                   ⟨(some 142), .qcall n_digest_Value [(.t 141)] [], none, []⟩,
                   ⟨(some 143), .b2s (.t 142), none, []⟩,
                   ⟨(some 144), .bin .plain .eql (.t 140) (.t 143), none, []⟩,
                   ⟨(some 145), .cn (.t 1), none, []⟩,
                   ⟨(some 146), .b2s (.t 145), none, []⟩,
                   ⟨(some 147), .cn (.t 2), none, []⟩,
                   ⟨(some 148), .b2s (.t 147), none, []⟩,
                   ⟨(some 149), .bin .plain .eql (.t 146) (.t 148), none, []⟩,
                   ⟨(some 150), .bin .bool .eql (.t 144) (.t 149), none, []⟩,
                   ⟨(some 26), .mv (.t 150), none, []⟩])
                 (.seq
                  (.reg [] [
                    ⟨(some 151), .cn (.t 16), none, []⟩,
                    ⟨(some 152), .b2s (.t 151), none, []⟩,
                    ⟨(some 153), .cn (.t 20), none, []⟩,
                    ⟨(some 154), .b2s (.t 153), none, []⟩,
                    ⟨(some 155), .bin .plain .neq (.t 152) (.t 154), none, []⟩,
                    ⟨(some 156), .mv (.t 155), none, []⟩,
                    ⟨(some 157), .cn (.t 16), (some (156, true)), []⟩,
                    ⟨(some 158), .b2s (.t 157), (some (156, true)), []⟩,
                    ⟨(some 159), .cn (.t 1), (some (156, true)), []⟩,
                    ⟨(some 160), .qcall n_digest_Value [(.t 159)] [], (some (156, true)), []⟩,
                    ⟨(some 161), .b2s (.t 160), (some (156, true)), []⟩,
                    ⟨(some 162), .bin .plain .neq (.t 158) (.t 161), (some (156, true)), []⟩,
                    ⟨(some 163), .pick (.t 156) (.t 162) (.k (.bool false)), none, []⟩,
                    ⟨(some 164), .mv (.t 163), none, []⟩,
                    ⟨(some 165), .cn (.t 20), (some (164, true)), []⟩,
                    ⟨(some 166), .b2s (.t 165), (some (164, true)), []⟩,
                    ⟨(some 167), .cn (.t 2), (some (164, true)), []⟩,
                    ⟨(some 168), .qcall n_digest_Value [(.t 167)] [], (some (164, true)), []⟩,
                    ⟨(some 169), .b2s (.t 168), (some (164, true)), []⟩,
                    ⟨(some 170), .bin .plain .neq (.t 166) (.t 169), (some (164, true)), []⟩,
                    ⟨(some 171), .pick (.t 164) (.t 170) (.k (.bool false)), none, []⟩,
                    ⟨(some 172), .mv (.t 171), none, []⟩,
                    ⟨(some 173), .qcall n_digest_None [] [], (some (172, true)), []⟩,
                    ⟨(some 174), .b2s (.t 173), (some (172, true)), []⟩,
                    ⟨(some 175), .cn (.t 16), (some (172, true)), []⟩,
                    ⟨(some 176), .b2s (.t 175), (some (172, true)), []⟩,
                    ⟨(some 177), .bin .plain .neq (.t 174) (.t 176), (some (172, true)), []⟩,
                    ⟨(some 178), .pick (.t 172) (.t 177) (.k (.bool false)), none, []⟩,
                    ⟨(some 179), .mv (.t 178), none, []⟩,
                    ⟨(some 180), .qcall n_digest_None [] [], (some (179, true)), []⟩,
                    ⟨(some 181), .b2s (.t 180), (some (179, true)), []⟩,
                    ⟨(some 182), .cn (.t 20), (some (179, true)), []⟩,
                    ⟨(some 183), .b2s (.t 182), (some (179, true)), []⟩,
                    ⟨(some 184), .bin .plain .neq (.t 181) (.t 183), (some (179, true)), []⟩,
                    ⟨(some 185), .pick (.t 179) (.t 184) (.k (.bool false)), none, []⟩,
                    ⟨(some 27), .mv (.t 185), none, []⟩])
                  (.seq
                   (.reg [] [
                     ⟨(some 186), .mv (.t 11), none, []⟩,
                     ⟨(some 187), .mv (.t 186), none, []⟩,
                     ⟨(some 188), .mv (.t 24), (some (187, true)), []⟩,
                     ⟨(some 189), .pick (.t 187) (.t 188) (.k (.bool false)), none, []⟩,
                     ⟨(some 190), .mv (.t 189), none, []⟩,
                     ⟨(some 191), .mv (.t 25), (some (190, true)), []⟩,
                     ⟨(some 192), .pick (.t 190) (.t 191) (.k (.bool false)), none, []⟩,
                     ⟨(some 193), .mv (.t 192), none, []⟩,
                     ⟨(some 194), .mv (.t 26), (some (193, true)), []⟩,
                     ⟨(some 195), .pick (.t 193) (.t 194) (.k (.bool false)), none, []⟩,
                     ⟨(some 196), .mv (.t 195), none, []⟩,
                     ⟨(some 197), .mv (.t 27), (some (196, true)), []⟩,
                     ⟨(some 198), .pick (.t 196) (.t 197) (.k (.bool false)), none, []⟩,
                     ⟨(some 10), .mv (.t 198), none, []⟩])
                   (.ret i_law03_DigestApart_r)))))))))))))))))),
  [.tmp 10], [], false, []⟩

def i_law02_CoderReads_r : List Bool := [false, false, false, false, true, false, false, false, false, false, false, false, false, false, false, false, false, false, false, false, false, false, false, false, false, false, false, false, false, false, false, false, false, false, false, false, false, false, false, false, false, false, false, false, false, false, false, false, false, false, false, false, false, false, false, false, false, false, false, false, false, false, false, false, false, false, false, false, false, false, false, false, false, false, false, false, false, false, false, false, false, false, false, false, false, false, false, false]
def i_law02_CoderReads_j2 : List Bool := [false, true, false, false, false, true, true, true, true, false, false, false, false, false, false, false, false, false, false, false, false, false, false, false, false, false, false, false, false, false, false, false, false, false, false, false, false, false, false, false, false, false, false, false, false, false, false, false, false, false, false, false, false, false, false, false, false, false, false, false, false, false, false, false, false, false, false, false, false, false, false, false, false, false, false, false, false, false, false, false, false, false, false, false, false, false, false, false]
def i_law02_CoderReads_j1 : List Bool := [false, true, false, false, false, true, true, true, false, false, false, false, false, false, false, false, false, false, false, false, false, false, false, false, false, false, false, false, false, false, false, false, false, false, false, false, false, false, false, false, false, false, false, false, false, false, false, false, false, false, false, false, false, false, false, false, false, false, false, false, false, false, false, false, false, false, false, false, false, false, false, false, false, false, false, false, false, false, false, false, false, false, false, false, false, false, false, false]
def i_law02_CoderReads_k0 : List Bool := [false, true, false, false, false, true, true, true, false, false, false, false, false, false, false, false, false, false, false, false, false, false, false, false, false, false, false, false, false, false, false, false, false, false, false, false, false, false, false, false, false, false, false, false, false, false, false, false, false, false, false, false, false, false, false, false, false, false, false, false, false, false, false, false, false, false, false, false, false, false, false, false, false, false, false, false, false, false, false, false, false, false, false, false, false, false, false, false]
def i_law02_CoderReads_j0 : List Bool := [false, false, false, false, false, true, true, false, false, false, false, false, false, false, false, false, false, false, false, false, false, false, false, false, false, false, false, false, false, false, false, false, false, false, false, false, false, false, false, false, false, false, false, false, false, false, false, false, false, false, false, false, false, false, false, false, false, false, false, false, false, false, false, false, false, false, false, false, false, false, false, false, false, false, false, false, false, false, false, false, false, false, false, false, false, false, false, false]
abbrev s_law02_CoderReads_K0 (t1 t5 t6 t7 : AV) (h : Heap) : St := ⟨[.undef, t1, .undef, .undef, .undef, t5, t6, t7, .undef, .undef, .undef, .undef, .undef, .undef, .undef, .undef, .undef, .undef, .undef, .undef, .undef, .undef, .undef, .undef, .undef, .undef, .undef, .undef, .undef, .undef, .undef, .undef, .undef, .undef, .undef, .undef, .undef, .undef, .undef, .undef, .undef, .undef, .undef, .undef, .undef, .undef, .undef, .undef, .undef, .undef, .undef, .undef, .undef, .undef, .undef, .undef, .undef, .undef, .undef, .undef, .undef, .undef, .undef, .undef, .undef, .undef, .undef, .undef, .undef, .undef, .undef, .undef, .undef, .undef, .undef, .undef, .undef, .undef, .undef, .undef, .undef, .undef, .undef, .undef, .undef, .undef, .undef, .undef], h⟩
def i_law02_CoderReads_b0 : IR :=
  (.seq
   (.seq
    (.reg [] [
      ⟨(some 18), .mv (.t 7), none, []⟩,
      ⟨(some 19), .cn (.t 1), none, []⟩,
      ⟨(some 20), .len false (.t 19), none, []⟩,
      ⟨(some 21), .bin .plain .lss (.t 18) (.t 20), none, []⟩,
      ⟨(some 22), .mv (.t 21), none, []⟩,
      ⟨(some 23), .mv (.t 7), (some (22, true)), []⟩,
      ⟨(some 24), .bin .plain .lss (.t 23) (.k (.int .i64 100)), (some (22, true)), []⟩,
      ⟨(some 25), .pick (.t 22) (.t 24) (.k (.bool false)), none, []⟩])
    (.cond (.t 25)
     .skip
     (.exit 0 i_law02_CoderReads_j0)))
   (.seq
    (.block 1 i_law02_CoderReads_j1
     (.seq
      (.reg [] [
        ⟨(some 8), .mv (.k (.bool false)), none, []⟩])
      (.seq
       (.seq
        (.reg [] [
          ⟨(some 28), .cn (.t 1), none, []⟩,
          ⟨(some 29), .mv (.t 7), none, []⟩,
          ⟨(some 30), .ia 2 (.t 28) (.t 29), none, []⟩,
          ⟨(some 31), .fa 0 (.t 30), none, []⟩,
          ⟨(some 32), .load false 1 (.t 31), none, []⟩,
          ⟨(some 33), .qcall n_law02_pick [(.t 32), (.k (.int .i64 3))] [], none, []⟩])
        (.block 2 i_law02_CoderReads_j2
         (.seq
          (.reg [] [
            ⟨(some 52), .bin .plain .eql (.t 33) (.k (.int .i64 0)), none, []⟩,
            ⟨(some 51), .mv (.t 52), none, []⟩])
          (.cond (.t 51)
           (.reg [] [
             ⟨(some 53), .mv (.t 5), none, []⟩,
             ⟨(some 54), .call n_coder_Reader_Number [(.t 53)] [], none, []⟩,
             ⟨(some 55), .mv (.t 6), none, []⟩,
             ⟨(some 56), .call n_ref02_Reader_Number [(.t 55)] [], none, []⟩,
             ⟨(some 57), .bin .plain .eql (.t 54) (.t 56), none, []⟩,
             ⟨(some 8), .mv (.t 57), none, []⟩])
           (.seq
            (.reg [] [
              ⟨(some 59), .bin .plain .eql (.t 33) (.k (.int .i64 1)), none, []⟩,
              ⟨(some 58), .mv (.t 59), none, []⟩])
            (.cond (.t 58)
             (.reg [] [
               ⟨(some 60), .mv (.t 5), none, []⟩,
               ⟨(some 61), .call n_coder_Reader_Byte [(.t 60)] [], none, []⟩,
               ⟨(some 62), .mv (.t 6), none, []⟩,
               ⟨(some 63), .call n_ref02_Reader_Byte [(.t 62)] [], none, []⟩,
               ⟨(some 64), .bin .plain .eql (.t 61) (.t 63), none, []⟩,
               ⟨(some 8), .mv (.t 64), none, []⟩])
             (.reg [(6, 11), (6, 13), (7, 14)] [
               ⟨(some 34), .mv (.t 5), none, []⟩,
               ⟨(some 35), .cn (.t 1), none, []⟩,
               ⟨(some 36), .mv (.t 7), none, []⟩,
               ⟨(some 37), .ia 2 (.t 35) (.t 36), none, []⟩,
               ⟨(some 38), .fa 1 (.t 37), none, []⟩,
               ⟨(some 39), .load false 1 (.t 38), none, []⟩,
               ⟨(some 40), .call n_coder_Reader_Bytes [(.t 34), (.t 39)] [], none, []⟩,
               ⟨(some 41), .b2s (.t 40), none, []⟩,
               ⟨(some 42), .mv (.t 6), none, []⟩,
               ⟨(some 43), .cn (.t 1), none, []⟩,
               ⟨(some 44), .mv (.t 7), none, []⟩,
               ⟨(some 45), .ia 2 (.t 43) (.t 44), none, []⟩,
               ⟨(some 46), .fa 1 (.t 45), none, []⟩,
               ⟨(some 47), .load false 1 (.t 46), none, []⟩,
               ⟨(some 48), .call n_ref02_Reader_Bytes [(.t 42), (.t 47)] [], none, []⟩,
               ⟨(some 49), .b2s (.t 48), none, []⟩,
               ⟨(some 50), .bin .plain .eql (.t 41) (.t 49), none, []⟩,
               ⟨(some 8), .mv (.t 50), none, []⟩])))))))
       (.seq
        (.reg [] [
          ⟨(some 65), .mv (.t 5), none, []⟩,
          ⟨(some 66), .call n_coder_Reader_End [(.t 65)] [], none, []⟩,
          ⟨(some 9), .mv (.t 66), none, []⟩])
        (.seq
         (.reg [] [
           ⟨(some 67), .mv (.t 8), none, []⟩,
           ⟨(some 68), .un .not (.t 67), none, []⟩,
           ⟨(some 69), .mv (.t 68), none, []⟩,
           ⟨(some 70), .mv (.t 9), (some (69, false)), []⟩,
           ⟨(some 71), .qcall n_law00_Code [(.t 70)] [], (some (69, false)), []⟩,
           ⟨(some 72), .mv (.t 6), (some (69, false)), []⟩,
           ⟨(some 73), .call n_ref02_Reader_End [(.t 72)] [], (some (69, false)), []⟩,
           ⟨(some 74), .bin .plain .neq (.t 71) (.t 73), (some (69, false)), []⟩,
           ⟨(some 75), .pick (.t 69) (.k (.bool true)) (.t 74), none, []⟩])
         (.cond (.t 75)
          (.seq
           (.reg [] [
             ⟨(some 4), .mv (.k (.bool false)), none, []⟩])
           (.ret i_law02_CoderReads_r))
          .skip))))))
    (.reg [] [
      ⟨(some 26), .mv (.t 7), none, []⟩,
      ⟨(some 27), .bin .plain .add (.t 26) (.k (.int .i64 1)), none, []⟩,
      ⟨(some 7), .mv (.t 27), none, []⟩])))

abbrev s_law02_CoderReads_J0 (t5 t6 : AV) (h : Heap) : St := ⟨[.undef, .undef, .undef, .undef, .undef, t5, t6, .undef, .undef, .undef, .undef, .undef, .undef, .undef, .undef, .undef, .undef, .undef, .undef, .undef, .undef, .undef, .undef, .undef, .undef, .undef, .undef, .undef, .undef, .undef, .undef, .undef, .undef, .undef, .undef, .undef, .undef, .undef, .undef, .undef, .undef, .undef, .undef, .undef, .undef, .undef, .undef, .undef, .undef, .undef, .undef, .undef, .undef, .undef, .undef, .undef, .undef, .undef, .undef, .undef, .undef, .undef, .undef, .undef, .undef, .undef, .undef, .undef, .undef, .undef, .undef, .undef, .undef, .undef, .undef, .undef, .undef, .undef, .undef, .undef, .undef, .undef, .undef, .undef, .undef, .undef, .undef, .undef], h⟩
/-- heartwood/heartwoodlaw02.CoderReads -/
def i_law02_CoderReads : Ev.Fn := ⟨2, 88, 3,
  (.seq
   (.reg [] [
     ⟨(some 4), .mv (.k (.bool false)), none, []⟩])
   (.seq
    (.reg [] [
      ⟨(some 11), .cn (.t 0), none, []⟩,
      ⟨(some 12), .qcall n_coder_NewReader [(.t 11)] [0], none, []⟩,
      ⟨(some 5), .mv (.t 12), none, []⟩])
    (.seq
     (.reg [] [
       ⟨(some 13), .cn (.t 0), none, []⟩,
       ⟨(some 14), .build [(.slice none 0 0), (.int .i64 0), (.bool false)] [(0, 1, (.t 13))], none, []⟩,
       ⟨(some 15), .box 1 3 (.t 14), none, []⟩,
       ⟨(some 6), .mv (.t 15), none, []⟩])
     (.seq
      (.seq
       (.reg [] [
         ⟨(some 16), .mv (.t 5), none, []⟩,
         ⟨(some 17), .bin .ptr .eql (.t 16) (.k (.pointer none)), none, []⟩])
       (.cond (.t 17)
        (.seq
         (.reg [] [
           ⟨(some 4), .mv (.k (.bool false)), none, []⟩])
         (.ret i_law02_CoderReads_r))
        .skip))
      (.seq
       (.seq
        (.reg [] [
          ⟨(some 7), .mv (.k (.int .i64 0)), none, []⟩])
        (.block 0 i_law02_CoderReads_j0
         (.loop i_law02_CoderReads_k0 i_law02_CoderReads_b0)))
       (.seq
        (.reg [] [
          ⟨(some 76), .mv (.t 5), none, []⟩,
          ⟨(some 77), .call n_coder_Reader_End [(.t 76)] [], none, []⟩,
          ⟨(some 10), .mv (.t 77), none, []⟩])
        (.seq
         (.reg [] [
           ⟨(some 78), .mv (.t 10), none, []⟩,
           ⟨(some 79), .qcall n_law00_Code [(.t 78)] [], none, []⟩,
           ⟨(some 80), .mv (.t 6), none, []⟩,
           ⟨(some 81), .call n_ref02_Reader_End [(.t 80)] [], none, []⟩,
           ⟨(some 82), .bin .plain .eql (.t 79) (.t 81), none, []⟩,
           ⟨(some 83), .mv (.t 82), none, []⟩,
           ⟨(some 84), .qcall n_coder_Number [(.k (.int .u64 248))] [2], (some (83, true)), []⟩,
           ⟨(some 85), .b2s (.t 84), (some (83, true)), []⟩,
           ⟨(some 86), .bin .plain .eql (.t 85) (.k (.string ⟨#[248, 248]⟩)), (some (83, true)), []⟩,
           ⟨(some 87), .pick (.t 83) (.t 86) (.k (.bool false)), none, []⟩,
           ⟨(some 4), .mv (.t 87), none, []⟩])
         (.ret i_law02_CoderReads_r)))))))),
  [.tmp 4], [], false, []⟩

def i_law02_pick_r : List Bool := [false, false, false, false, true, false, false, false, false, false, false, false, false]
/-- heartwood/heartwoodlaw02.pick -/
def i_law02_pick : Ev.Fn := ⟨2, 13, 0,
  (.seq
   (.reg [] [
     ⟨(some 4), .mv (.k (.int .i64 0)), none, []⟩])
   (.seq
    (.seq
     (.reg [] [
       ⟨(some 5), .mv (.t 0), none, []⟩,
       ⟨(some 6), .bin .plain .lss (.t 5) (.k (.int .i64 0)), none, []⟩])
     (.cond (.t 6)
      (.reg [] [
        ⟨(some 7), .mv (.t 0), none, []⟩,
        ⟨(some 8), .bin .plain .add (.t 7) (.k (.int .i64 1)), none, []⟩,
        ⟨(some 9), .un .neg (.t 8), none, []⟩,
        ⟨(some 0), .mv (.t 9), none, []⟩])
      .skip))
    (.seq
     (.reg [] [
       ⟨(some 10), .mv (.t 0), none, []⟩,
       ⟨(some 11), .mv (.t 1), none, []⟩,
       ⟨(some 12), .bin .plain .rem (.t 10) (.t 11), none, []⟩,
       ⟨(some 4), .mv (.t 12), none, []⟩])
     (.ret i_law02_pick_r)))),
  [.tmp 4], [], false, []⟩

def i_ref02_Reader_Number_r : List Bool := [false, false, true, false, false, false, false, false, false, false, false, false, false, false, false, false, false, false, false, false, false, false, false, false, false, false, false, false, false, false, false, false, false, false, false, false, false, false, false, false, false, false, false, false, false, false, false, false, false, false, false, false, false, false, false, false, false, false, false, false, false, false, false, false, false, false, false, false, false, false, false, false, false, false, false, false, false, false, false, false, false, false, false, false, false, false]
def i_ref02_Reader_Number_j1 : List Bool := [true, false, false, false, true, true, true, false, false, false, false, false, false, false, false, false, false, false, false, false, false, false, false, false, false, false, false, false, false, false, false, false, false, false, false, false, false, false, false, false, false, false, false, false, false, false, false, false, false, false, false, false, false, false, false, false, false, false, false, false, false, false, false, false, false, false, false, false, false, false, false, false, false, false, false, false, false, false, false, false, false, false, false, false, false, false]
def i_ref02_Reader_Number_k0 : List Bool := [true, false, false, false, true, true, true, false, false, false, false, false, false, false, false, false, false, false, false, false, false, false, false, false, false, false, false, false, false, false, false, false, false, false, false, false, false, false, false, false, false, false, false, false, false, false, false, false, false, false, false, false, false, false, false, false, false, false, false, false, false, false, false, false, false, false, false, false, false, false, false, false, false, false, false, false, false, false, false, false, false, false, false, false, false, false]
def i_ref02_Reader_Number_j0 : List Bool := [true, false, false, false, true, true, false, false, false, false, false, false, false, false, false, false, false, false, false, false, false, false, false, false, false, false, false, false, false, false, false, false, false, false, false, false, false, false, false, false, false, false, false, false, false, false, false, false, false, false, false, false, false, false, false, false, false, false, false, false, false, false, false, false, false, false, false, false, false, false, false, false, false, false, false, false, false, false, false, false, false, false, false, false, false, false]
abbrev s_ref02_Reader_Number_K0 (t0 t4 t5 t6 : AV) (h : Heap) : St := ⟨[t0, .undef, .undef, .undef, t4, t5, t6, .undef, .undef, .undef, .undef, .undef, .undef, .undef, .undef, .undef, .undef, .undef, .undef, .undef, .undef, .undef, .undef, .undef, .undef, .undef, .undef, .undef, .undef, .undef, .undef, .undef, .undef, .undef, .undef, .undef, .undef, .undef, .undef, .undef, .undef, .undef, .undef, .undef, .undef, .undef, .undef, .undef, .undef, .undef, .undef, .undef, .undef, .undef, .undef, .undef, .undef, .undef, .undef, .undef, .undef, .undef, .undef, .undef, .undef, .undef, .undef, .undef, .undef, .undef, .undef, .undef, .undef, .undef, .undef, .undef, .undef, .undef, .undef, .undef, .undef, .undef, .undef, .undef, .undef, .undef], h⟩
def i_ref02_Reader_Number_b0 : IR :=
  (.seq
   (.seq
    (.reg [] [
      ⟨(some 37), .mv (.t 6), none, []⟩,
      ⟨(some 38), .mv (.t 4), none, []⟩,
      ⟨(some 39), .bin .plain .lss (.t 37) (.t 38), none, []⟩])
    (.cond (.t 39)
     .skip
     (.exit 0 i_ref02_Reader_Number_j0)))
   (.seq
    (.block 1 i_ref02_Reader_Number_j1
     (.reg [] [
       ⟨(some 42), .mv (.t 5), none, []⟩,
       ⟨(some 43), .bin .plain .mul (.k (.int .u64 256)) (.t 42), none, []⟩,
       ⟨(some 44), .mv (.t 0), none, []⟩,
       ⟨(some 45), .nilc (.t 44), none, []⟩,
       ⟨(some 46), .fa 0 (.t 45), none, []⟩,
       ⟨(some 47), .load false 1 (.t 46), none, []⟩,
       ⟨(some 48), .mv (.t 0), none, []⟩,
       ⟨(some 49), .nilc (.t 48), none, []⟩,
       ⟨(some 50), .fa 1 (.t 49), none, []⟩,
       ⟨(some 51), .load false 1 (.t 50), none, []⟩,
       ⟨(some 52), .mv (.t 6), none, []⟩,
       ⟨(some 53), .bin .plain .add (.t 51) (.t 52), none, []⟩,
       ⟨(some 54), .ia 1 (.t 47) (.t 53), none, []⟩,
       ⟨(some 55), .load false 1 (.t 54), none, []⟩,
       ⟨(some 56), .conv .u64 (.t 55), none, []⟩,
       ⟨(some 57), .bin .plain .add (.t 43) (.t 56), none, []⟩,
       ⟨(some 5), .mv (.t 57), none, []⟩]))
    (.reg [] [
      ⟨(some 40), .mv (.t 6), none, []⟩,
      ⟨(some 41), .bin .plain .add (.t 40) (.k (.int .i64 1)), none, []⟩,
      ⟨(some 6), .mv (.t 41), none, []⟩])))

abbrev s_ref02_Reader_Number_J0 (t0 t4 t5 : AV) (h : Heap) : St := ⟨[t0, .undef, .undef, .undef, t4, t5, .undef, .undef, .undef, .undef, .undef, .undef, .undef, .undef, .undef, .undef, .undef, .undef, .undef, .undef, .undef, .undef, .undef, .undef, .undef, .undef, .undef, .undef, .undef, .undef, .undef, .undef, .undef, .undef, .undef, .undef, .undef, .undef, .undef, .undef, .undef, .undef, .undef, .undef, .undef, .undef, .undef, .undef, .undef, .undef, .undef, .undef, .undef, .undef, .undef, .undef, .undef, .undef, .undef, .undef, .undef, .undef, .undef, .undef, .undef, .undef, .undef, .undef, .undef, .undef, .undef, .undef, .undef, .undef, .undef, .undef, .undef, .undef, .undef, .undef, .undef, .undef, .undef, .undef, .undef, .undef], h⟩
/-- (*heartwood/heartwoodref02.Reader).Number -/
def i_ref02_Reader_Number : Ev.Fn := ⟨1, 86, 0,
  (.seq
   (.reg [] [
     ⟨(some 2), .mv (.k (.int .u64 0)), none, []⟩])
   (.seq
    (.reg [] [
      ⟨(some 7), .mv (.t 0), none, []⟩,
      ⟨(some 8), .call n_ref02_Reader_Byte [(.t 7)] [], none, []⟩,
      ⟨(some 3), .mv (.t 8), none, []⟩])
    (.seq
     (.seq
      (.reg [] [
        ⟨(some 9), .mv (.t 0), none, []⟩,
        ⟨(some 10), .nilc (.t 9), none, []⟩,
        ⟨(some 11), .fa 2 (.t 10), none, []⟩,
        ⟨(some 12), .load false 1 (.t 11), none, []⟩,
        ⟨(some 13), .mv (.t 12), none, []⟩,
        ⟨(some 14), .mv (.t 3), (some (13, false)), []⟩,
        ⟨(some 15), .bin .plain .lss (.t 14) (.k (.int .u8 248)), (some (13, false)), []⟩,
        ⟨(some 16), .pick (.t 13) (.k (.bool true)) (.t 15), none, []⟩])
      (.cond (.t 16)
       (.seq
        (.reg [] [
          ⟨(some 17), .mv (.t 3), none, []⟩,
          ⟨(some 18), .conv .u64 (.t 17), none, []⟩,
          ⟨(some 2), .mv (.t 18), none, []⟩])
        (.ret i_ref02_Reader_Number_r))
       .skip))
     (.seq
      (.reg [] [
        ⟨(some 19), .mv (.t 3), none, []⟩,
        ⟨(some 20), .conv .i64 (.t 19), none, []⟩,
        ⟨(some 21), .bin .plain .sub (.t 20) (.k (.int .i64 247)), none, []⟩,
        ⟨(some 4), .mv (.t 21), none, []⟩])
      (.seq
       (.seq
        (.reg [] [
          ⟨(some 22), .mv (.t 0), none, []⟩,
          ⟨(some 23), .nilc (.t 22), none, []⟩,
          ⟨(some 24), .fa 0 (.t 23), none, []⟩,
          ⟨(some 25), .load false 1 (.t 24), none, []⟩,
          ⟨(some 26), .len false (.t 25), none, []⟩,
          ⟨(some 27), .mv (.t 0), none, []⟩,
          ⟨(some 28), .nilc (.t 27), none, []⟩,
          ⟨(some 29), .fa 1 (.t 28), none, []⟩,
          ⟨(some 30), .load false 1 (.t 29), none, []⟩,
          ⟨(some 31), .bin .plain .sub (.t 26) (.t 30), none, []⟩,
          ⟨(some 32), .mv (.t 4), none, []⟩,
          ⟨(some 33), .bin .plain .lss (.t 31) (.t 32), none, []⟩])
        (.cond (.t 33)
         (.seq
          (.reg [] [
            ⟨(some 34), .mv (.t 0), none, []⟩,
            ⟨(some 35), .nilc (.t 34), none, []⟩,
            ⟨(some 36), .fa 2 (.t 35), none, []⟩,
            ⟨none, .store 1 (.t 36) (.k (.bool true)), none, []⟩])
          (.seq
           (.reg [] [
             ⟨(some 2), .mv (.k (.int .u64 0)), none, []⟩])
           (.ret i_ref02_Reader_Number_r)))
         .skip))
       (.seq
        (.reg [] [
          ⟨(some 5), .mv (.k (.int .u64 0)), none, []⟩])
        (.seq
         (.seq
          (.reg [] [
            ⟨(some 6), .mv (.k (.int .i64 0)), none, []⟩])
          (.block 0 i_ref02_Reader_Number_j0
           (.loop i_ref02_Reader_Number_k0 i_ref02_Reader_Number_b0)))
         (.seq
          (.seq
           (.reg [] [
             ⟨(some 58), .mv (.t 0), none, []⟩,
             ⟨(some 59), .nilc (.t 58), none, []⟩,
             ⟨(some 60), .fa 0 (.t 59), none, []⟩,
             ⟨(some 61), .load false 1 (.t 60), none, []⟩,
             ⟨(some 62), .mv (.t 0), none, []⟩,
             ⟨(some 63), .nilc (.t 62), none, []⟩,
             ⟨(some 64), .fa 1 (.t 63), none, []⟩,
             ⟨(some 65), .load false 1 (.t 64), none, []⟩,
             ⟨(some 66), .ia 1 (.t 61) (.t 65), none, []⟩,
             ⟨(some 67), .load false 1 (.t 66), none, []⟩,
             ⟨(some 68), .bin .plain .eql (.t 67) (.k (.int .u8 0)), none, []⟩,
             ⟨(some 69), .mv (.t 68), none, []⟩,
             ⟨(some 70), .mv (.t 5), (some (69, false)), []⟩,
             ⟨(some 71), .bin .plain .lss (.t 70) (.k (.int .u64 248)), (some (69, false)), []⟩,
             ⟨(some 72), .pick (.t 69) (.k (.bool true)) (.t 71), none, []⟩])
           (.cond (.t 72)
            (.seq
             (.reg [] [
               ⟨(some 73), .mv (.t 0), none, []⟩,
               ⟨(some 74), .nilc (.t 73), none, []⟩,
               ⟨(some 75), .fa 2 (.t 74), none, []⟩,
               ⟨none, .store 1 (.t 75) (.k (.bool true)), none, []⟩])
             (.seq
              (.reg [] [
                ⟨(some 2), .mv (.k (.int .u64 0)), none, []⟩])
              (.ret i_ref02_Reader_Number_r)))
            .skip))
          (.seq
           (.reg [] [
             ⟨(some 76), .mv (.t 0), none, []⟩,
             ⟨(some 77), .mv (.t 0), none, []⟩,
             ⟨(some 78), .nilc (.t 77), none, []⟩,
             ⟨(some 79), .fa 1 (.t 78), none, []⟩,
             ⟨(some 80), .load false 1 (.t 79), none, []⟩,
             ⟨(some 81), .mv (.t 4), none, []⟩,
             ⟨(some 82), .bin .plain .add (.t 80) (.t 81), none, []⟩,
             ⟨(some 83), .nilc (.t 76), none, []⟩,
             ⟨(some 84), .fa 1 (.t 83), none, []⟩,
             ⟨none, .store 1 (.t 84) (.t 82), none, []⟩])
           (.seq
            (.reg [] [
              ⟨(some 85), .mv (.t 5), none, []⟩,
              ⟨(some 2), .mv (.t 85), none, []⟩])
            (.ret i_ref02_Reader_Number_r))))))))))),
  [.tmp 2], [], false, []⟩

def i_ref02_Reader_Byte_r : List Bool := [false, false, true, false, false, false, false, false, false, false, false, false, false, false, false, false, false, false, false, false, false, false, false, false, false, false, false, false, false, false, false, false, false, false, false, false, false, false, false, false]
/-- (*heartwood/heartwoodref02.Reader).Byte -/
def i_ref02_Reader_Byte : Ev.Fn := ⟨1, 40, 0,
  (.seq
   (.reg [] [
     ⟨(some 2), .mv (.k (.int .u8 0)), none, []⟩])
   (.seq
    (.seq
     (.reg [] [
       ⟨(some 3), .mv (.t 0), none, []⟩,
       ⟨(some 4), .nilc (.t 3), none, []⟩,
       ⟨(some 5), .fa 2 (.t 4), none, []⟩,
       ⟨(some 6), .load false 1 (.t 5), none, []⟩,
       ⟨(some 7), .mv (.t 6), none, []⟩,
       ⟨(some 8), .mv (.t 0), (some (7, false)), []⟩,
       ⟨(some 9), .nilc (.t 8), (some (7, false)), []⟩,
       ⟨(some 10), .fa 1 (.t 9), (some (7, false)), []⟩,
       ⟨(some 11), .load false 1 (.t 10), (some (7, false)), []⟩,
       ⟨(some 12), .mv (.t 0), (some (7, false)), []⟩,
       ⟨(some 13), .nilc (.t 12), (some (7, false)), []⟩,
       ⟨(some 14), .fa 0 (.t 13), (some (7, false)), []⟩,
       ⟨(some 15), .load false 1 (.t 14), (some (7, false)), []⟩,
       ⟨(some 16), .len false (.t 15), (some (7, false)), []⟩,
       ⟨(some 17), .bin .plain .geq (.t 11) (.t 16), (some (7, false)), []⟩,
       ⟨(some 18), .pick (.t 7) (.k (.bool true)) (.t 17), none, []⟩])
     (.cond (.t 18)
      (.seq
       (.reg [] [
         ⟨(some 19), .mv (.t 0), none, []⟩,
         ⟨(some 20), .nilc (.t 19), none, []⟩,
         ⟨(some 21), .fa 2 (.t 20), none, []⟩,
         ⟨none, .store 1 (.t 21) (.k (.bool true)), none, []⟩])
       (.seq
        (.reg [] [
          ⟨(some 2), .mv (.k (.int .u8 0)), none, []⟩])
        (.ret i_ref02_Reader_Byte_r)))
      .skip))
    (.seq
     (.reg [] [
       ⟨(some 22), .mv (.t 0), none, []⟩,
       ⟨(some 23), .nilc (.t 22), none, []⟩,
       ⟨(some 24), .fa 1 (.t 23), none, []⟩,
       ⟨(some 25), .load false 1 (.t 24), none, []⟩,
       ⟨(some 26), .bin .plain .add (.t 25) (.k (.int .i64 1)), none, []⟩,
       ⟨(some 27), .nilc (.t 22), none, []⟩,
       ⟨(some 28), .fa 1 (.t 27), none, []⟩,
       ⟨none, .store 1 (.t 28) (.t 26), none, []⟩])
     (.seq
      (.reg [] [
        ⟨(some 29), .mv (.t 0), none, []⟩,
        ⟨(some 30), .nilc (.t 29), none, []⟩,
        ⟨(some 31), .fa 0 (.t 30), none, []⟩,
        ⟨(some 32), .load false 1 (.t 31), none, []⟩,
        ⟨(some 33), .mv (.t 0), none, []⟩,
        ⟨(some 34), .nilc (.t 33), none, []⟩,
        ⟨(some 35), .fa 1 (.t 34), none, []⟩,
        ⟨(some 36), .load false 1 (.t 35), none, []⟩,
        ⟨(some 37), .bin .plain .sub (.t 36) (.k (.int .i64 1)), none, []⟩,
        ⟨(some 38), .ia 1 (.t 32) (.t 37), none, []⟩,
        ⟨(some 39), .load false 1 (.t 38), none, []⟩,
        ⟨(some 2), .mv (.t 39), none, []⟩])
      (.ret i_ref02_Reader_Byte_r))))),
  [.tmp 2], [], false, []⟩

def i_coder_Reader_Bytes_r : List Bool := [false, false, false, false, true, false, false, false, false, false, false, false, false, false, false, false, false, false, false, false, false, false, false, false, false, false, false, false, false, false, false, false, false, false, false, false, false, false, false]
/-- (*heartwood/coder.Reader).Bytes -/
def i_coder_Reader_Bytes : Ev.Fn := ⟨2, 39, 0,
  (.seq
   (.reg [] [
     ⟨(some 4), .cn (.k (.slice none 0 0)), none, []⟩])
   (.seq
    (.reg [] [
      ⟨(some 6), .mv (.t 0), none, []⟩,
      ⟨(some 7), .call n_coder_Reader_Number [(.t 6)] [], none, []⟩,
      ⟨(some 5), .mv (.t 7), none, []⟩])
    (.seq
     (.seq
      (.reg [] [
        ⟨(some 8), .mv (.t 0), none, []⟩,
        ⟨(some 9), .nilc (.t 8), none, []⟩,
        ⟨(some 10), .fa 1 (.t 9), none, []⟩,
        ⟨(some 11), .load false 1 (.t 10), none, []⟩,
        ⟨(some 12), .mv (.t 11), none, []⟩,
        ⟨(some 13), .mv (.t 1), (some (12, false)), []⟩,
        ⟨(some 14), .bin .plain .lss (.t 13) (.k (.int .i64 0)), (some (12, false)), []⟩,
        ⟨(some 15), .pick (.t 12) (.k (.bool true)) (.t 14), none, []⟩,
        ⟨(some 16), .mv (.t 15), none, []⟩,
        ⟨(some 17), .mv (.t 5), (some (16, false)), []⟩,
        ⟨(some 18), .mv (.t 1), (some (16, false)), []⟩,
        ⟨(some 19), .conv .u64 (.t 18), (some (16, false)), []⟩,
        ⟨(some 20), .bin .plain .gtr (.t 17) (.t 19), (some (16, false)), []⟩,
        ⟨(some 21), .pick (.t 16) (.k (.bool true)) (.t 20), none, []⟩,
        ⟨(some 22), .mv (.t 21), none, []⟩,
        ⟨(some 23), .mv (.t 5), (some (22, false)), []⟩,
        ⟨(some 24), .mv (.t 0), (some (22, false)), []⟩,
        ⟨(some 25), .nilc (.t 24), (some (22, false)), []⟩,
        ⟨(some 26), .fa 0 (.t 25), (some (22, false)), []⟩,
        ⟨(some 27), .load false 1 (.t 26), (some (22, false)), []⟩,
        ⟨(some 28), .len false (.t 27), (some (22, false)), []⟩,
        ⟨(some 29), .conv .u64 (.t 28), (some (22, false)), []⟩,
        ⟨(some 30), .bin .plain .gtr (.t 23) (.t 29), (some (22, false)), []⟩,
        ⟨(some 31), .pick (.t 22) (.k (.bool true)) (.t 30), none, []⟩])
      (.cond (.t 31)
       (.seq
        (.reg [] [
          ⟨(some 32), .mv (.t 0), none, []⟩,
          ⟨(some 33), .nilc (.t 32), none, []⟩,
          ⟨(some 34), .fa 1 (.t 33), none, []⟩,
          ⟨none, .store 1 (.t 34) (.k (.bool true)), none, []⟩])
        (.seq
         (.reg [] [
           ⟨(some 4), .cn (.k (.slice none 0 0)), none, []⟩])
         (.ret i_coder_Reader_Bytes_r)))
       .skip))
     (.seq
      (.reg [] [
        ⟨(some 35), .mv (.t 0), none, []⟩,
        ⟨(some 36), .mv (.t 5), none, []⟩,
        ⟨(some 37), .conv .i64 (.t 36), none, []⟩,
        ⟨(some 38), .call n_coder_Reader_take [(.t 35), (.t 37)] [], none, []⟩,
        ⟨(some 4), .cn (.t 38), none, []⟩])
      (.ret i_coder_Reader_Bytes_r))))),
  [.tmp 4], [], false, []⟩

def i_ref02_Reader_Bytes_r : List Bool := [false, false, false, false, true, false, false, false, false, false, false, false, false, false, false, false, false, false, false, false, false, false, false, false, false, false, false, false, false, false, false, false, false, false, false, false, false, false, false, false, false, false, false, false, false, false, false, false, false, false, false, false, false, false, false, false, false, false, false, false, false, false, false, false, false, false, false, false, false, false]
/-- (*heartwood/heartwoodref02.Reader).Bytes -/
def i_ref02_Reader_Bytes : Ev.Fn := ⟨2, 70, 1,
  (.seq
   (.reg [] [
     ⟨(some 4), .cn (.k (.slice none 0 0)), none, []⟩])
   (.seq
    (.reg [] [
      ⟨(some 7), .mv (.t 0), none, []⟩,
      ⟨(some 8), .call n_ref02_Reader_Number [(.t 7)] [], none, []⟩,
      ⟨(some 5), .mv (.t 8), none, []⟩])
    (.seq
     (.seq
      (.reg [] [
        ⟨(some 9), .mv (.t 0), none, []⟩,
        ⟨(some 10), .nilc (.t 9), none, []⟩,
        ⟨(some 11), .fa 2 (.t 10), none, []⟩,
        ⟨(some 12), .load false 1 (.t 11), none, []⟩,
        ⟨(some 13), .mv (.t 12), none, []⟩,
        ⟨(some 14), .mv (.t 1), (some (13, false)), []⟩,
        ⟨(some 15), .bin .plain .lss (.t 14) (.k (.int .i64 0)), (some (13, false)), []⟩,
        ⟨(some 16), .pick (.t 13) (.k (.bool true)) (.t 15), none, []⟩,
        ⟨(some 17), .mv (.t 16), none, []⟩,
        ⟨(some 18), .mv (.t 5), (some (17, false)), []⟩,
        ⟨(some 19), .mv (.t 1), (some (17, false)), []⟩,
        ⟨(some 20), .conv .u64 (.t 19), (some (17, false)), []⟩,
        ⟨(some 21), .bin .plain .gtr (.t 18) (.t 20), (some (17, false)), []⟩,
        ⟨(some 22), .pick (.t 17) (.k (.bool true)) (.t 21), none, []⟩,
        ⟨(some 23), .mv (.t 22), none, []⟩,
        ⟨(some 24), .mv (.t 5), (some (23, false)), []⟩,
        ⟨(some 25), .mv (.t 0), (some (23, false)), []⟩,
        ⟨(some 26), .nilc (.t 25), (some (23, false)), []⟩,
        ⟨(some 27), .fa 0 (.t 26), (some (23, false)), []⟩,
        ⟨(some 28), .load false 1 (.t 27), (some (23, false)), []⟩,
        ⟨(some 29), .len false (.t 28), (some (23, false)), []⟩,
        ⟨(some 30), .mv (.t 0), (some (23, false)), []⟩,
        ⟨(some 31), .nilc (.t 30), (some (23, false)), []⟩,
        ⟨(some 32), .fa 1 (.t 31), (some (23, false)), []⟩,
        ⟨(some 33), .load false 1 (.t 32), (some (23, false)), []⟩,
        ⟨(some 34), .bin .plain .sub (.t 29) (.t 33), (some (23, false)), []⟩,
        ⟨(some 35), .conv .u64 (.t 34), (some (23, false)), []⟩,
        ⟨(some 36), .bin .plain .gtr (.t 24) (.t 35), (some (23, false)), []⟩,
        ⟨(some 37), .pick (.t 23) (.k (.bool true)) (.t 36), none, []⟩])
      (.cond (.t 37)
       (.seq
        (.reg [] [
          ⟨(some 38), .mv (.t 0), none, []⟩,
          ⟨(some 39), .nilc (.t 38), none, []⟩,
          ⟨(some 40), .fa 2 (.t 39), none, []⟩,
          ⟨none, .store 1 (.t 40) (.k (.bool true)), none, []⟩])
        (.seq
         (.reg [] [
           ⟨(some 4), .cn (.k (.slice none 0 0)), none, []⟩])
         (.ret i_ref02_Reader_Bytes_r)))
       .skip))
     (.seq
      (.reg [(0, 4), (0, 8), (0, 12), (0, 16)] [
        ⟨(some 41), .lit 0 ty_uint8 1 0 [(.int .u8 0)] [], none, []⟩,
        ⟨(some 42), .mv (.t 0), none, []⟩,
        ⟨(some 43), .nilc (.t 42), none, []⟩,
        ⟨(some 44), .fa 0 (.t 43), none, []⟩,
        ⟨(some 45), .load false 1 (.t 44), none, []⟩,
        ⟨(some 46), .mv (.t 0), none, []⟩,
        ⟨(some 47), .nilc (.t 46), none, []⟩,
        ⟨(some 48), .fa 1 (.t 47), none, []⟩,
        ⟨(some 49), .load false 1 (.t 48), none, []⟩,
        ⟨(some 50), .mv (.t 0), none, []⟩,
        ⟨(some 51), .nilc (.t 50), none, []⟩,
        ⟨(some 52), .fa 1 (.t 51), none, []⟩,
        ⟨(some 53), .load false 1 (.t 52), none, []⟩,
        ⟨(some 54), .mv (.t 5), none, []⟩,
        ⟨(some 55), .conv .i64 (.t 54), none, []⟩,
        ⟨(some 56), .bin .plain .add (.t 53) (.t 55), none, []⟩,
        ⟨(some 57), .slice 1 (.t 45) (some (.t 49)) (some (.t 56)) none, none, [45]⟩,
        ⟨(some 58), .app 0 ty_uint8 1 1 (.t 41) (.t 57), none, []⟩,
        ⟨(some 6), .cn (.t 58), none, [58]⟩])
      (.seq
       (.reg [] [
         ⟨(some 59), .mv (.t 0), none, []⟩,
         ⟨(some 60), .mv (.t 0), none, []⟩,
         ⟨(some 61), .nilc (.t 60), none, []⟩,
         ⟨(some 62), .fa 1 (.t 61), none, []⟩,
         ⟨(some 63), .load false 1 (.t 62), none, []⟩,
         ⟨(some 64), .mv (.t 5), none, []⟩,
         ⟨(some 65), .conv .i64 (.t 64), none, []⟩,
         ⟨(some 66), .bin .plain .add (.t 63) (.t 65), none, []⟩,
         ⟨(some 67), .nilc (.t 59), none, []⟩,
         ⟨(some 68), .fa 1 (.t 67), none, []⟩,
         ⟨none, .store 1 (.t 68) (.t 66), none, []⟩])
       (.seq
        (.reg [] [
          ⟨(some 69), .cn (.t 6), none, []⟩,
          ⟨(some 4), .cn (.t 69), none, []⟩])
        (.ret i_ref02_Reader_Bytes_r))))))),
  [.tmp 4], [], false, []⟩

def i_coder_Reader_End_r : List Bool := [false, false, true, false, false, false, false, false, false, false, false, false, false, false, false, false, false]
def i_coder_Reader_End_j0 : List Bool := [false, false, false, false, false, false, false, false, false, false, false, false, false, false, false, false, false]
/-- (*heartwood/coder.Reader).End -/
def i_coder_Reader_End : Ev.Fn := ⟨1, 17, 0,
  (.seq
   (.reg [] [
     ⟨(some 2), .mv (.k .nilIface), none, []⟩])
   (.seq
    (.block 0 i_coder_Reader_End_j0
     (.seq
      (.reg [] [
        ⟨(some 4), .mv (.t 0), none, []⟩,
        ⟨(some 5), .nilc (.t 4), none, []⟩,
        ⟨(some 6), .fa 1 (.t 5), none, []⟩,
        ⟨(some 7), .load false 1 (.t 6), none, []⟩,
        ⟨(some 3), .mv (.t 7), none, []⟩])
      (.cond (.t 3)
       (.seq
        (.reg [] [
          ⟨(some 8), .mki ty_api_Code (.k (.int .i64 3)), none, []⟩,
          ⟨(some 2), .mv (.t 8), none, []⟩])
        (.ret i_coder_Reader_End_r))
       (.seq
        (.reg [] [
          ⟨(some 10), .mv (.t 0), none, []⟩,
          ⟨(some 11), .nilc (.t 10), none, []⟩,
          ⟨(some 12), .fa 0 (.t 11), none, []⟩,
          ⟨(some 13), .load false 1 (.t 12), none, []⟩,
          ⟨(some 14), .len false (.t 13), none, []⟩,
          ⟨(some 15), .bin .plain .gtr (.t 14) (.k (.int .i64 0)), none, []⟩,
          ⟨(some 9), .mv (.t 15), none, []⟩])
        (.cond (.t 9)
         (.seq
          (.reg [] [
            ⟨(some 16), .mki ty_api_Code (.k (.int .i64 4)), none, []⟩,
            ⟨(some 2), .mv (.t 16), none, []⟩])
          (.ret i_coder_Reader_End_r))
         .skip)))))
    (.seq
     (.reg [] [
       ⟨(some 2), .mv (.k .nilIface), none, []⟩])
     (.ret i_coder_Reader_End_r)))),
  [.tmp 2], [], false, []⟩

def i_law00_Code_r : List Bool := [false, false, true, false, false, false, false, false, false, false, false, false, false, false, false]
def i_law00_Code_j1 : List Bool := [true, false, false, true, false, false, false, false, false, false, false, false, false, false, false]
def i_law00_Code_k0 : List Bool := [true, false, false, true, false, false, false, false, false, false, false, false, false, false, false]
def i_law00_Code_j0 : List Bool := [false, false, false, false, false, false, false, false, false, false, false, false, false, false, false]
abbrev s_law00_Code_K0 (t0 t3 : AV) (h : Heap) : St := ⟨[t0, .undef, .undef, t3, .undef, .undef, .undef, .undef, .undef, .undef, .undef, .undef, .undef, .undef, .undef], h⟩
def i_law00_Code_b0 : IR :=
  (.seq
   (.seq
    (.reg [] [
      ⟨(some 6), .mv (.t 3), none, []⟩,
      ⟨(some 7), .bin .plain .leq (.t 6) (.k (.int .i64 13)), none, []⟩])
    (.cond (.t 7)
     .skip
     (.exit 0 i_law00_Code_j0)))
   (.seq
    (.block 1 i_law00_Code_j1
     (.seq
      (.reg [] [
        ⟨(some 10), .mv (.t 0), none, []⟩,
        ⟨(some 11), .mv (.t 3), none, []⟩,
        ⟨(some 12), .mki ty_api_Code (.t 11), none, []⟩,
        ⟨(some 13), .bin (.iface ty_api_Code false) .eql (.t 10) (.t 12), none, []⟩])
      (.cond (.t 13)
       (.seq
        (.reg [] [
          ⟨(some 14), .mv (.t 3), none, []⟩,
          ⟨(some 2), .mv (.t 14), none, []⟩])
        (.ret i_law00_Code_r))
       .skip)))
    (.reg [] [
      ⟨(some 8), .mv (.t 3), none, []⟩,
      ⟨(some 9), .bin .plain .add (.t 8) (.k (.int .i64 1)), none, []⟩,
      ⟨(some 3), .mv (.t 9), none, []⟩])))

abbrev s_law00_Code_J0 (h : Heap) : St := ⟨[.undef, .undef, .undef, .undef, .undef, .undef, .undef, .undef, .undef, .undef, .undef, .undef, .undef, .undef, .undef], h⟩
/-- heartwood/heartwoodlaw00.Code -/
def i_law00_Code : Ev.Fn := ⟨1, 15, 0,
  (.seq
   (.reg [] [
     ⟨(some 2), .mv (.k (.int .i64 0)), none, []⟩])
   (.seq
    (.seq
     (.reg [] [
       ⟨(some 4), .mv (.t 0), none, []⟩,
       ⟨(some 5), .bin (.iface ty_api_Code true) .eql (.t 4) (.k .nilIface), none, []⟩])
     (.cond (.t 5)
      (.seq
       (.reg [] [
         ⟨(some 2), .mv (.k (.int .i64 0)), none, []⟩])
       (.ret i_law00_Code_r))
      .skip))
    (.seq
     (.seq
      (.reg [] [
        ⟨(some 3), .mv (.k (.int .i64 1)), none, []⟩])
      (.block 0 i_law00_Code_j0
       (.loop i_law00_Code_k0 i_law00_Code_b0)))
     (.seq
      (.reg [] [
        ⟨(some 2), .mv (.k (.int .i64 (-1))), none, []⟩])
      (.ret i_law00_Code_r))))),
  [.tmp 2], [], false, []⟩

def i_ref02_Reader_End_r : List Bool := [false, false, true, false, false, false, false, false, false, false, false, false, false, false, false, false, false]
/-- (*heartwood/heartwoodref02.Reader).End -/
def i_ref02_Reader_End : Ev.Fn := ⟨1, 17, 0,
  (.seq
   (.reg [] [
     ⟨(some 2), .mv (.k (.int .i64 0)), none, []⟩])
   (.seq
    (.seq
     (.reg [] [
       ⟨(some 3), .mv (.t 0), none, []⟩,
       ⟨(some 4), .nilc (.t 3), none, []⟩,
       ⟨(some 5), .fa 2 (.t 4), none, []⟩,
       ⟨(some 6), .load false 1 (.t 5), none, []⟩])
     (.cond (.t 6)
      (.seq
       (.reg [] [
         ⟨(some 2), .mv (.k (.int .i64 3)), none, []⟩])
       (.ret i_ref02_Reader_End_r))
      .skip))
    (.seq
     (.seq
      (.reg [] [
        ⟨(some 7), .mv (.t 0), none, []⟩,
        ⟨(some 8), .nilc (.t 7), none, []⟩,
        ⟨(some 9), .fa 1 (.t 8), none, []⟩,
        ⟨(some 10), .load false 1 (.t 9), none, []⟩,
        ⟨(some 11), .mv (.t 0), none, []⟩,
        ⟨(some 12), .nilc (.t 11), none, []⟩,
        ⟨(some 13), .fa 0 (.t 12), none, []⟩,
        ⟨(some 14), .load false 1 (.t 13), none, []⟩,
        ⟨(some 15), .len false (.t 14), none, []⟩,
        ⟨(some 16), .bin .plain .lss (.t 10) (.t 15), none, []⟩])
      (.cond (.t 16)
       (.seq
        (.reg [] [
          ⟨(some 2), .mv (.k (.int .i64 4)), none, []⟩])
        (.ret i_ref02_Reader_End_r))
       .skip))
     (.seq
      (.reg [] [
        ⟨(some 2), .mv (.k (.int .i64 0)), none, []⟩])
      (.ret i_ref02_Reader_End_r))))),
  [.tmp 2], [], false, []⟩

def i_law02_CoderBack_r : List Bool := [false, false, false, false, true, false, false, false, false, false, false, false, false, false, false, false, false, false, false, false, false, false, false, false, false, false, false, false, false, false, false, false, false, false, false, false, false, false, false, false, false, false, false, false, false, false, false, false, false, false, false, false, false, false, false, false, false, false, false, false, false, false, false, false, false, false, false, false, false, false, false, false, false, false, false, false, false, false, false, false, false, false, false, false, false, false, false, false, false, false, false, false, false, false, false, false, false, false, false, false, false]
def i_law02_CoderBack_j1 : List Bool := [true, true, false, false, false, true, true, false, false, false, false, false, false, false, false, false, false, false, false, false, false, false, false, false, false, false, false, false, false, false, false, false, false, false, false, false, false, false, false, false, false, false, false, false, false, false, false, false, false, false, false, false, false, false, false, false, false, false, false, false, false, false, false, false, false, false, false, false, false, false, false, false, false, false, false, false, false, false, false, false, false, false, false, false, false, false, false, false, false, false, false, false, false, false, false, false, false, false, false, false, false]
def i_law02_CoderBack_k0 : List Bool := [true, true, false, false, false, true, true, false, false, false, false, false, false, false, false, false, false, false, false, false, false, false, false, false, false, false, false, false, false, false, false, false, false, false, false, false, false, false, false, false, false, false, false, false, false, false, false, false, false, false, false, false, false, false, false, false, false, false, false, false, false, false, false, false, false, false, false, false, false, false, false, false, false, false, false, false, false, false, false, false, false, false, false, false, false, false, false, false, false, false, false, false, false, false, false, false, false, false, false, false, false]
def i_law02_CoderBack_j0 : List Bool := [true, true, false, false, false, true, false, false, false, false, false, false, false, false, false, false, false, false, false, false, false, false, false, false, false, false, false, false, false, false, false, false, false, false, false, false, false, false, false, false, false, false, false, false, false, false, false, false, false, false, false, false, false, false, false, false, false, false, false, false, false, false, false, false, false, false, false, false, false, false, false, false, false, false, false, false, false, false, false, false, false, false, false, false, false, false, false, false, false, false, false, false, false, false, false, false, false, false, false, false, false]
def i_law02_CoderBack_j3 : List Bool := [true, true, false, false, false, true, false, true, false, false, false, false, false, false, false, false, false, false, false, false, false, false, false, false, false, false, false, false, false, false, false, false, false, false, false, false, false, false, false, false, false, false, false, false, false, false, false, false, false, false, false, false, false, false, false, false, false, false, false, false, false, false, false, false, false, false, false, false, false, false, false, false, false, false, false, false, false, false, false, false, false, false, false, false, false, false, false, false, false, false, false, false, false, false, false, false, false, false, false, false, false]
def i_law02_CoderBack_k1 : List Bool := [true, true, false, false, false, true, false, true, false, false, false, false, false, false, false, false, false, false, false, false, false, false, false, false, false, false, false, false, false, false, false, false, false, false, false, false, false, false, false, false, false, false, false, false, false, false, false, false, false, false, false, false, false, false, false, false, false, false, false, false, false, false, false, false, false, false, false, false, false, false, false, false, false, false, false, false, false, false, false, false, false, false, false, false, false, false, false, false, false, false, false, false, false, false, false, false, false, false, false, false, false]
def i_law02_CoderBack_j2 : List Bool := [true, true, false, false, false, true, false, false, false, false, false, false, false, false, false, false, false, false, false, false, false, false, false, false, false, false, false, false, false, false, false, false, false, false, false, false, false, false, false, false, false, false, false, false, false, false, false, false, false, false, false, false, false, false, false, false, false, false, false, false, false, false, false, false, false, false, false, false, false, false, false, false, false, false, false, false, false, false, false, false, false, false, false, false, false, false, false, false, false, false, false, false, false, false, false, false, false, false, false, false, false]
def i_law02_CoderBack_j5 : List Bool := [true, true, false, false, false, false, false, false, true, true, false, false, false, false, false, false, false, false, false, false, false, false, false, false, false, false, false, false, false, false, false, false, false, false, false, false, false, false, false, false, false, false, false, false, false, false, false, false, false, false, false, false, false, false, false, false, false, false, false, false, false, false, false, false, false, false, false, false, false, false, false, false, false, false, false, false, false, false, false, false, false, false, false, false, false, false, false, false, false, false, false, false, false, false, false, false, false, false, false, false, false]
def i_law02_CoderBack_k2 : List Bool := [true, true, false, false, false, false, false, false, true, true, false, false, false, false, false, false, false, false, false, false, false, false, false, false, false, false, false, false, false, false, false, false, false, false, false, false, false, false, false, false, false, false, false, false, false, false, false, false, false, false, false, false, false, false, false, false, false, false, false, false, false, false, false, false, false, false, false, false, false, false, false, false, false, false, false, false, false, false, false, false, false, false, false, false, false, false, false, false, false, false, false, false, false, false, false, false, false, false, false, false, false]
def i_law02_CoderBack_j4 : List Bool := [false, true, false, false, false, false, false, false, true, false, false, false, false, false, false, false, false, false, false, false, false, false, false, false, false, false, false, false, false, false, false, false, false, false, false, false, false, false, false, false, false, false, false, false, false, false, false, false, false, false, false, false, false, false, false, false, false, false, false, false, false, false, false, false, false, false, false, false, false, false, false, false, false, false, false, false, false, false, false, false, false, false, false, false, false, false, false, false, false, false, false, false, false, false, false, false, false, false, false, false, false]
def i_law02_CoderBack_j7 : List Bool := [false, true, false, false, false, false, false, false, true, false, true, false, false, false, false, false, false, false, false, false, false, false, false, false, false, false, false, false, false, false, false, false, false, false, false, false, false, false, false, false, false, false, false, false, false, false, false, false, false, false, false, false, false, false, false, false, false, false, false, false, false, false, false, false, false, false, false, false, false, false, false, false, false, false, false, false, false, false, false, false, false, false, false, false, false, false, false, false, false, false, false, false, false, false, false, false, false, false, false, false, false]
def i_law02_CoderBack_k3 : List Bool := [false, true, false, false, false, false, false, false, true, false, true, false, false, false, false, false, false, false, false, false, false, false, false, false, false, false, false, false, false, false, false, false, false, false, false, false, false, false, false, false, false, false, false, false, false, false, false, false, false, false, false, false, false, false, false, false, false, false, false, false, false, false, false, false, false, false, false, false, false, false, false, false, false, false, false, false, false, false, false, false, false, false, false, false, false, false, false, false, false, false, false, false, false, false, false, false, false, false, false, false, false]
def i_law02_CoderBack_j6 : List Bool := [false, false, false, false, false, false, false, false, true, false, false, false, false, false, false, false, false, false, false, false, false, false, false, false, false, false, false, false, false, false, false, false, false, false, false, false, false, false, false, false, false, false, false, false, false, false, false, false, false, false, false, false, false, false, false, false, false, false, false, false, false, false, false, false, false, false, false, false, false, false, false, false, false, false, false, false, false, false, false, false, false, false, false, false, false, false, false, false, false, false, false, false, false, false, false, false, false, false, false, false, false]
abbrev s_law02_CoderBack_K0 (t0 t1 t5 t6 : AV) (h : Heap) : St := ⟨[t0, t1, .undef, .undef, .undef, t5, t6, .undef, .undef, .undef, .undef, .undef, .undef, .undef, .undef, .undef, .undef, .undef, .undef, .undef, .undef, .undef, .undef, .undef, .undef, .undef, .undef, .undef, .undef, .undef, .undef, .undef, .undef, .undef, .undef, .undef, .undef, .undef, .undef, .undef, .undef, .undef, .undef, .undef, .undef, .undef, .undef, .undef, .undef, .undef, .undef, .undef, .undef, .undef, .undef, .undef, .undef, .undef, .undef, .undef, .undef, .undef, .undef, .undef, .undef, .undef, .undef, .undef, .undef, .undef, .undef, .undef, .undef, .undef, .undef, .undef, .undef, .undef, .undef, .undef, .undef, .undef, .undef, .undef, .undef, .undef, .undef, .undef, .undef, .undef, .undef, .undef, .undef, .undef, .undef, .undef, .undef, .undef, .undef, .undef, .undef], h⟩
def i_law02_CoderBack_b0 : IR :=
  (.seq
   (.seq
    (.reg [] [
      ⟨(some 12), .mv (.t 6), none, []⟩,
      ⟨(some 13), .cn (.t 0), none, []⟩,
      ⟨(some 14), .len false (.t 13), none, []⟩,
      ⟨(some 15), .bin .plain .lss (.t 12) (.t 14), none, []⟩,
      ⟨(some 16), .mv (.t 15), none, []⟩,
      ⟨(some 17), .mv (.t 6), (some (16, true)), []⟩,
      ⟨(some 18), .bin .plain .lss (.t 17) (.k (.int .i64 50)), (some (16, true)), []⟩,
      ⟨(some 19), .pick (.t 16) (.t 18) (.k (.bool false)), none, []⟩])
    (.cond (.t 19)
     .skip
     (.exit 0 i_law02_CoderBack_j0)))
   (.seq
    (.block 1 i_law02_CoderBack_j1
     (.reg [] [
       ⟨(some 22), .mv (.t 5), none, []⟩,
       ⟨(some 23), .cn (.t 0), none, []⟩,
       ⟨(some 24), .mv (.t 6), none, []⟩,
       ⟨(some 25), .ia 1 (.t 23) (.t 24), none, []⟩,
       ⟨(some 26), .load false 1 (.t 25), none, []⟩,
       ⟨(some 27), .qcall n_coder_Number [(.t 26)] [0], none, []⟩,
       ⟨(some 28), .app 1 ty_uint8 1 1 (.t 22) (.t 27), none, []⟩,
       ⟨(some 5), .mv (.t 28), none, []⟩]))
    (.reg [] [
      ⟨(some 20), .mv (.t 6), none, []⟩,
      ⟨(some 21), .bin .plain .add (.t 20) (.k (.int .i64 1)), none, []⟩,
      ⟨(some 6), .mv (.t 21), none, []⟩])))

abbrev s_law02_CoderBack_J0 (t0 t1 t5 : AV) (h : Heap) : St := ⟨[t0, t1, .undef, .undef, .undef, t5, .undef, .undef, .undef, .undef, .undef, .undef, .undef, .undef, .undef, .undef, .undef, .undef, .undef, .undef, .undef, .undef, .undef, .undef, .undef, .undef, .undef, .undef, .undef, .undef, .undef, .undef, .undef, .undef, .undef, .undef, .undef, .undef, .undef, .undef, .undef, .undef, .undef, .undef, .undef, .undef, .undef, .undef, .undef, .undef, .undef, .undef, .undef, .undef, .undef, .undef, .undef, .undef, .undef, .undef, .undef, .undef, .undef, .undef, .undef, .undef, .undef, .undef, .undef, .undef, .undef, .undef, .undef, .undef, .undef, .undef, .undef, .undef, .undef, .undef, .undef, .undef, .undef, .undef, .undef, .undef, .undef, .undef, .undef, .undef, .undef, .undef, .undef, .undef, .undef, .undef, .undef, .undef, .undef, .undef, .undef], h⟩
abbrev s_law02_CoderBack_K1 (t0 t1 t5 t7 : AV) (h : Heap) : St := ⟨[t0, t1, .undef, .undef, .undef, t5, .undef, t7, .undef, .undef, .undef, .undef, .undef, .undef, .undef, .undef, .undef, .undef, .undef, .undef, .undef, .undef, .undef, .undef, .undef, .undef, .undef, .undef, .undef, .undef, .undef, .undef, .undef, .undef, .undef, .undef, .undef, .undef, .undef, .undef, .undef, .undef, .undef, .undef, .undef, .undef, .undef, .undef, .undef, .undef, .undef, .undef, .undef, .undef, .undef, .undef, .undef, .undef, .undef, .undef, .undef, .undef, .undef, .undef, .undef, .undef, .undef, .undef, .undef, .undef, .undef, .undef, .undef, .undef, .undef, .undef, .undef, .undef, .undef, .undef, .undef, .undef, .undef, .undef, .undef, .undef, .undef, .undef, .undef, .undef, .undef, .undef, .undef, .undef, .undef, .undef, .undef, .undef, .undef, .undef, .undef], h⟩
def i_law02_CoderBack_b1 : IR :=
  (.seq
   (.seq
    (.reg [] [
      ⟨(some 29), .mv (.t 7), none, []⟩,
      ⟨(some 30), .cn (.t 1), none, []⟩,
      ⟨(some 31), .len false (.t 30), none, []⟩,
      ⟨(some 32), .bin .plain .lss (.t 29) (.t 31), none, []⟩,
      ⟨(some 33), .mv (.t 32), none, []⟩,
      ⟨(some 34), .mv (.t 7), (some (33, true)), []⟩,
      ⟨(some 35), .bin .plain .lss (.t 34) (.k (.int .i64 50)), (some (33, true)), []⟩,
      ⟨(some 36), .pick (.t 33) (.t 35) (.k (.bool false)), none, []⟩])
    (.cond (.t 36)
     .skip
     (.exit 2 i_law02_CoderBack_j2)))
   (.seq
    (.block 3 i_law02_CoderBack_j3
     (.seq
      (.seq
       (.reg [] [
         ⟨(some 39), .cn (.t 1), none, []⟩,
         ⟨(some 40), .mv (.t 7), none, []⟩,
         ⟨(some 41), .ia 1 (.t 39) (.t 40), none, []⟩,
         ⟨(some 42), .load false 1 (.t 41), none, []⟩,
         ⟨(some 43), .len false (.t 42), none, []⟩,
         ⟨(some 44), .bin .plain .gtr (.t 43) (.k (.int .i64 1000)), none, []⟩])
       (.cond (.t 44)
        (.seq
         (.reg [] [
           ⟨(some 4), .mv (.k (.bool true)), none, []⟩])
         (.ret i_law02_CoderBack_r))
        .skip))
      (.reg [] [
        ⟨(some 45), .mv (.t 5), none, []⟩,
        ⟨(some 46), .cn (.t 1), none, []⟩,
        ⟨(some 47), .mv (.t 7), none, []⟩,
        ⟨(some 48), .ia 1 (.t 46) (.t 47), none, []⟩,
        ⟨(some 49), .load false 1 (.t 48), none, []⟩,
        ⟨(some 50), .qcall n_coder_Bytes [(.t 49)] [], none, []⟩,
        ⟨(some 51), .app 1 ty_uint8 1 1 (.t 45) (.t 50), none, []⟩,
        ⟨(some 5), .mv (.t 51), none, []⟩])))
    (.reg [] [
      ⟨(some 37), .mv (.t 7), none, []⟩,
      ⟨(some 38), .bin .plain .add (.t 37) (.k (.int .i64 1)), none, []⟩,
      ⟨(some 7), .mv (.t 38), none, []⟩])))

abbrev s_law02_CoderBack_J2 (t0 t1 t5 : AV) (h : Heap) : St := ⟨[t0, t1, .undef, .undef, .undef, t5, .undef, .undef, .undef, .undef, .undef, .undef, .undef, .undef, .undef, .undef, .undef, .undef, .undef, .undef, .undef, .undef, .undef, .undef, .undef, .undef, .undef, .undef, .undef, .undef, .undef, .undef, .undef, .undef, .undef, .undef, .undef, .undef, .undef, .undef, .undef, .undef, .undef, .undef, .undef, .undef, .undef, .undef, .undef, .undef, .undef, .undef, .undef, .undef, .undef, .undef, .undef, .undef, .undef, .undef, .undef, .undef, .undef, .undef, .undef, .undef, .undef, .undef, .undef, .undef, .undef, .undef, .undef, .undef, .undef, .undef, .undef, .undef, .undef, .undef, .undef, .undef, .undef, .undef, .undef, .undef, .undef, .undef, .undef, .undef, .undef, .undef, .undef, .undef, .undef, .undef, .undef, .undef, .undef, .undef, .undef], h⟩
abbrev s_law02_CoderBack_K2 (t0 t1 t8 t9 : AV) (h : Heap) : St := ⟨[t0, t1, .undef, .undef, .undef, .undef, .undef, .undef, t8, t9, .undef, .undef, .undef, .undef, .undef, .undef, .undef, .undef, .undef, .undef, .undef, .undef, .undef, .undef, .undef, .undef, .undef, .undef, .undef, .undef, .undef, .undef, .undef, .undef, .undef, .undef, .undef, .undef, .undef, .undef, .undef, .undef, .undef, .undef, .undef, .undef, .undef, .undef, .undef, .undef, .undef, .undef, .undef, .undef, .undef, .undef, .undef, .undef, .undef, .undef, .undef, .undef, .undef, .undef, .undef, .undef, .undef, .undef, .undef, .undef, .undef, .undef, .undef, .undef, .undef, .undef, .undef, .undef, .undef, .undef, .undef, .undef, .undef, .undef, .undef, .undef, .undef, .undef, .undef, .undef, .undef, .undef, .undef, .undef, .undef, .undef, .undef, .undef, .undef, .undef, .undef], h⟩
def i_law02_CoderBack_b2 : IR :=
  (.seq
   (.seq
    (.reg [] [
      ⟨(some 61), .mv (.t 9), none, []⟩,
      ⟨(some 62), .cn (.t 0), none, []⟩,
      ⟨(some 63), .len false (.t 62), none, []⟩,
      ⟨(some 64), .bin .plain .lss (.t 61) (.t 63), none, []⟩,
      ⟨(some 65), .mv (.t 64), none, []⟩,
      ⟨(some 66), .mv (.t 9), (some (65, true)), []⟩,
      ⟨(some 67), .bin .plain .lss (.t 66) (.k (.int .i64 50)), (some (65, true)), []⟩,
      ⟨(some 68), .pick (.t 65) (.t 67) (.k (.bool false)), none, []⟩])
    (.cond (.t 68)
     .skip
     (.exit 4 i_law02_CoderBack_j4)))
   (.seq
    (.block 5 i_law02_CoderBack_j5
     (.seq
      (.reg [(1, 4), (1, 5)] [
        ⟨(some 71), .mv (.t 8), none, []⟩,
        ⟨(some 72), .call n_coder_Reader_Number [(.t 71)] [], none, []⟩,
        ⟨(some 73), .cn (.t 0), none, []⟩,
        ⟨(some 74), .mv (.t 9), none, []⟩,
        ⟨(some 75), .ia 1 (.t 73) (.t 74), none, []⟩,
        ⟨(some 76), .load false 1 (.t 75), none, []⟩,
        ⟨(some 77), .bin .plain .neq (.t 72) (.t 76), none, []⟩])
      (.cond (.t 77)
       (.seq
        (.reg [] [
          ⟨(some 4), .mv (.k (.bool false)), none, []⟩])
        (.ret i_law02_CoderBack_r))
       .skip)))
    (.reg [] [
      ⟨(some 69), .mv (.t 9), none, []⟩,
      ⟨(some 70), .bin .plain .add (.t 69) (.k (.int .i64 1)), none, []⟩,
      ⟨(some 9), .mv (.t 70), none, []⟩])))

abbrev s_law02_CoderBack_J4 (t1 t8 : AV) (h : Heap) : St := ⟨[.undef, t1, .undef, .undef, .undef, .undef, .undef, .undef, t8, .undef, .undef, .undef, .undef, .undef, .undef, .undef, .undef, .undef, .undef, .undef, .undef, .undef, .undef, .undef, .undef, .undef, .undef, .undef, .undef, .undef, .undef, .undef, .undef, .undef, .undef, .undef, .undef, .undef, .undef, .undef, .undef, .undef, .undef, .undef, .undef, .undef, .undef, .undef, .undef, .undef, .undef, .undef, .undef, .undef, .undef, .undef, .undef, .undef, .undef, .undef, .undef, .undef, .undef, .undef, .undef, .undef, .undef, .undef, .undef, .undef, .undef, .undef, .undef, .undef, .undef, .undef, .undef, .undef, .undef, .undef, .undef, .undef, .undef, .undef, .undef, .undef, .undef, .undef, .undef, .undef, .undef, .undef, .undef, .undef, .undef, .undef, .undef, .undef, .undef, .undef, .undef], h⟩
abbrev s_law02_CoderBack_K3 (t1 t8 t10 : AV) (h : Heap) : St := ⟨[.undef, t1, .undef, .undef, .undef, .undef, .undef, .undef, t8, .undef, t10, .undef, .undef, .undef, .undef, .undef, .undef, .undef, .undef, .undef, .undef, .undef, .undef, .undef, .undef, .undef, .undef, .undef, .undef, .undef, .undef, .undef, .undef, .undef, .undef, .undef, .undef, .undef, .undef, .undef, .undef, .undef, .undef, .undef, .undef, .undef, .undef, .undef, .undef, .undef, .undef, .undef, .undef, .undef, .undef, .undef, .undef, .undef, .undef, .undef, .undef, .undef, .undef, .undef, .undef, .undef, .undef, .undef, .undef, .undef, .undef, .undef, .undef, .undef, .undef, .undef, .undef, .undef, .undef, .undef, .undef, .undef, .undef, .undef, .undef, .undef, .undef, .undef, .undef, .undef, .undef, .undef, .undef, .undef, .undef, .undef, .undef, .undef, .undef, .undef, .undef], h⟩
def i_law02_CoderBack_b3 : IR :=
  (.seq
   (.seq
    (.reg [] [
      ⟨(some 78), .mv (.t 10), none, []⟩,
      ⟨(some 79), .cn (.t 1), none, []⟩,
      ⟨(some 80), .len false (.t 79), none, []⟩,
      ⟨(some 81), .bin .plain .lss (.t 78) (.t 80), none, []⟩,
      ⟨(some 82), .mv (.t 81), none, []⟩,
      ⟨(some 83), .mv (.t 10), (some (82, true)), []⟩,
      ⟨(some 84), .bin .plain .lss (.t 83) (.k (.int .i64 50)), (some (82, true)), []⟩,
      ⟨(some 85), .pick (.t 82) (.t 84) (.k (.bool false)), none, []⟩])
    (.cond (.t 85)
     .skip
     (.exit 6 i_law02_CoderBack_j6)))
   (.seq
    (.block 7 i_law02_CoderBack_j7
     (.seq
      (.reg [(1, 5), (1, 6), (1, 7)] [
        ⟨(some 88), .mv (.t 8), none, []⟩,
        ⟨(some 89), .call n_coder_Reader_Bytes [(.t 88), (.k (.int .i64 1000))] [], none, []⟩,
        ⟨(some 90), .b2s (.t 89), none, []⟩,
        ⟨(some 91), .cn (.t 1), none, []⟩,
        ⟨(some 92), .mv (.t 10), none, []⟩,
        ⟨(some 93), .ia 1 (.t 91) (.t 92), none, []⟩,
        ⟨(some 94), .load false 1 (.t 93), none, []⟩,
        ⟨(some 95), .b2s (.t 94), none, []⟩,
        ⟨(some 96), .bin .plain .neq (.t 90) (.t 95), none, []⟩])
      (.cond (.t 96)
       (.seq
        (.reg [] [
          ⟨(some 4), .mv (.k (.bool false)), none, []⟩])
        (.ret i_law02_CoderBack_r))
       .skip)))
    (.reg [] [
      ⟨(some 86), .mv (.t 10), none, []⟩,
      ⟨(some 87), .bin .plain .add (.t 86) (.k (.int .i64 1)), none, []⟩,
      ⟨(some 10), .mv (.t 87), none, []⟩])))

abbrev s_law02_CoderBack_J6 (t8 : AV) (h : Heap) : St := ⟨[.undef, .undef, .undef, .undef, .undef, .undef, .undef, .undef, t8, .undef, .undef, .undef, .undef, .undef, .undef, .undef, .undef, .undef, .undef, .undef, .undef, .undef, .undef, .undef, .undef, .undef, .undef, .undef, .undef, .undef, .undef, .undef, .undef, .undef, .undef, .undef, .undef, .undef, .undef, .undef, .undef, .undef, .undef, .undef, .undef, .undef, .undef, .undef, .undef, .undef, .undef, .undef, .undef, .undef, .undef, .undef, .undef, .undef, .undef, .undef, .undef, .undef, .undef, .undef, .undef, .undef, .undef, .undef, .undef, .undef, .undef, .undef, .undef, .undef, .undef, .undef, .undef, .undef, .undef, .undef, .undef, .undef, .undef, .undef, .undef, .undef, .undef, .undef, .undef, .undef, .undef, .undef, .undef, .undef, .undef, .undef, .undef, .undef, .undef, .undef, .undef], h⟩
/-- heartwood/heartwoodlaw02.CoderBack -/
def i_law02_CoderBack : Ev.Fn := ⟨2, 101, 4,
  (.seq
   (.reg [] [
     ⟨(some 4), .mv (.k (.bool false)), none, []⟩])
   (.seq
    (.reg [] [
      ⟨(some 5), .mv (.k (.slice none 0 0)), none, []⟩])
    (.seq
     (.seq
      (.reg [] [
        ⟨(some 6), .mv (.k (.int .i64 0)), none, []⟩])
      (.block 0 i_law02_CoderBack_j0
       (.loop i_law02_CoderBack_k0 i_law02_CoderBack_b0)))
     (.seq
      (.seq
       (.reg [] [
         ⟨(some 7), .mv (.k (.int .i64 0)), none, []⟩])
       (.block 2 i_law02_CoderBack_j2
        (.loop i_law02_CoderBack_k1 i_law02_CoderBack_b1)))
      (.seq
       (.reg [] [
         ⟨(some 52), .cn (.t 5), none, [5]⟩,
         ⟨(some 53), .qcall n_coder_NewReader [(.t 52)] [2], none, [52]⟩,
         ⟨(some 8), .mv (.t 53), none, []⟩])
       (.seq
        (.seq
         (.reg [] [
           ⟨(some 54), .mv (.t 8), none, []⟩,
           ⟨(some 55), .bin .ptr .eql (.t 54) (.k (.pointer none)), none, []⟩,
           ⟨(some 56), .mv (.t 55), none, []⟩,
           ⟨(some 57), .qcall n_coder_Number [(.k (.int .u64 248))] [3], (some (56, false)), []⟩,
           ⟨(some 58), .b2s (.t 57), (some (56, false)), []⟩,
           ⟨(some 59), .bin .plain .neq (.t 58) (.k (.string ⟨#[248, 248]⟩)), (some (56, false)), []⟩,
           ⟨(some 60), .pick (.t 56) (.k (.bool true)) (.t 59), none, []⟩])
         (.cond (.t 60)
          (.seq
           (.reg [] [
             ⟨(some 4), .mv (.k (.bool false)), none, []⟩])
           (.ret i_law02_CoderBack_r))
          .skip))
        (.seq
         (.seq
          (.reg [] [
            ⟨(some 9), .mv (.k (.int .i64 0)), none, []⟩])
          (.block 4 i_law02_CoderBack_j4
           (.loop i_law02_CoderBack_k2 i_law02_CoderBack_b2)))
         (.seq
          (.seq
           (.reg [] [
             ⟨(some 10), .mv (.k (.int .i64 0)), none, []⟩])
           (.block 6 i_law02_CoderBack_j6
            (.loop i_law02_CoderBack_k3 i_law02_CoderBack_b3)))
          (.seq
           (.reg [] [
             ⟨(some 97), .mv (.t 8), none, []⟩,
             ⟨(some 98), .call n_coder_Reader_End [(.t 97)] [], none, []⟩,
             ⟨(some 11), .mv (.t 98), none, []⟩])
           (.seq
            (.reg [] [
              ⟨(some 99), .mv (.t 11), none, []⟩,
              ⟨(some 100), .bin (.iface ty_api_Code true) .eql (.t 99) (.k .nilIface), none, []⟩,
              ⟨(some 4), .mv (.t 100), none, []⟩])
            (.ret i_law02_CoderBack_r))))))))))),
  [.tmp 4], [], false, []⟩

def tab (f : Nat) : Option Ev.Fn := match f with
  | 3 => some i_law01_ShaRounds
  | 14 => some i_sha_Round
  | 44 => some i_math_bits_RotateLeft32
  | 15 => some i_ref01_Round
  | 45 => some i_ref01_turn
  | 4 => some i_law01_ShaTails
  | 16 => some i_sha_Tail
  | 17 => some i_ref01_Tail
  | 5 => some i_law02_CoderNumbers
  | 18 => some i_coder_Number
  | 19 => some i_ref02_Number
  | 6 => some i_law02_CoderBytes
  | 20 => some i_coder_Bytes
  | 21 => some i_ref02_Bytes
  | 7 => some i_law01_ShaWords
  | 22 => some i_sha_Words
  | 23 => some i_ref01_Words
  | 8 => some i_law02_CoderApart
  | 24 => some i_coder_NewReader
  | 46 => some i_slices_Clone_sl_byte_byte
  | 25 => some i_coder_Reader_Number
  | 38 => some i_coder_Reader_Byte
  | 47 => some i_coder_Reader_take
  | 9 => some i_law03_DigestPreimages
  | 26 => some i_law03_up
  | 29 => some i_digest_Pair
  | 48 => some i_digest_width
  | 49 => some i_slices_Concat_sl_byte_byte
  | 50 => some i_slices_Grow_sl_byte_byte
  | 34 => some i_digest_None
  | 27 => some i_digest_Value
  | 28 => some i_ref03_Value
  | 30 => some i_digest_Node
  | 31 => some i_law03_may
  | 32 => some i_ref03_Pair
  | 33 => some i_ref03_Node
  | 10 => some i_law03_DigestApart
  | 12 => some i_law02_CoderReads
  | 36 => some i_law02_pick
  | 37 => some i_ref02_Reader_Number
  | 39 => some i_ref02_Reader_Byte
  | 35 => some i_coder_Reader_Bytes
  | 40 => some i_ref02_Reader_Bytes
  | 41 => some i_coder_Reader_End
  | 42 => some i_law00_Code
  | 43 => some i_ref02_Reader_End
  | 13 => some i_law02_CoderBack
  | _ => none
theorem t_law01_ShaRounds : tab n_law01_ShaRounds = some i_law01_ShaRounds := rfl
theorem t_sha_Round : tab n_sha_Round = some i_sha_Round := rfl
theorem t_math_bits_RotateLeft32 : tab n_math_bits_RotateLeft32 = some i_math_bits_RotateLeft32 := rfl
theorem t_ref01_Round : tab n_ref01_Round = some i_ref01_Round := rfl
theorem t_ref01_turn : tab n_ref01_turn = some i_ref01_turn := rfl
theorem t_law01_ShaTails : tab n_law01_ShaTails = some i_law01_ShaTails := rfl
theorem t_sha_Tail : tab n_sha_Tail = some i_sha_Tail := rfl
theorem t_ref01_Tail : tab n_ref01_Tail = some i_ref01_Tail := rfl
theorem t_law02_CoderNumbers : tab n_law02_CoderNumbers = some i_law02_CoderNumbers := rfl
theorem t_coder_Number : tab n_coder_Number = some i_coder_Number := rfl
theorem t_ref02_Number : tab n_ref02_Number = some i_ref02_Number := rfl
theorem t_law02_CoderBytes : tab n_law02_CoderBytes = some i_law02_CoderBytes := rfl
theorem t_coder_Bytes : tab n_coder_Bytes = some i_coder_Bytes := rfl
theorem t_ref02_Bytes : tab n_ref02_Bytes = some i_ref02_Bytes := rfl
theorem t_law01_ShaWords : tab n_law01_ShaWords = some i_law01_ShaWords := rfl
theorem t_sha_Words : tab n_sha_Words = some i_sha_Words := rfl
theorem t_ref01_Words : tab n_ref01_Words = some i_ref01_Words := rfl
theorem t_law02_CoderApart : tab n_law02_CoderApart = some i_law02_CoderApart := rfl
theorem t_coder_NewReader : tab n_coder_NewReader = some i_coder_NewReader := rfl
theorem t_slices_Clone_sl_byte_byte : tab n_slices_Clone_sl_byte_byte = some i_slices_Clone_sl_byte_byte := rfl
theorem t_coder_Reader_Number : tab n_coder_Reader_Number = some i_coder_Reader_Number := rfl
theorem t_coder_Reader_Byte : tab n_coder_Reader_Byte = some i_coder_Reader_Byte := rfl
theorem t_coder_Reader_take : tab n_coder_Reader_take = some i_coder_Reader_take := rfl
theorem t_law03_DigestPreimages : tab n_law03_DigestPreimages = some i_law03_DigestPreimages := rfl
theorem t_law03_up : tab n_law03_up = some i_law03_up := rfl
theorem t_digest_Pair : tab n_digest_Pair = some i_digest_Pair := rfl
theorem t_digest_width : tab n_digest_width = some i_digest_width := rfl
theorem t_slices_Concat_sl_byte_byte : tab n_slices_Concat_sl_byte_byte = some i_slices_Concat_sl_byte_byte := rfl
theorem t_slices_Grow_sl_byte_byte : tab n_slices_Grow_sl_byte_byte = some i_slices_Grow_sl_byte_byte := rfl
theorem t_digest_None : tab n_digest_None = some i_digest_None := rfl
theorem t_digest_Value : tab n_digest_Value = some i_digest_Value := rfl
theorem t_ref03_Value : tab n_ref03_Value = some i_ref03_Value := rfl
theorem t_digest_Node : tab n_digest_Node = some i_digest_Node := rfl
theorem t_law03_may : tab n_law03_may = some i_law03_may := rfl
theorem t_ref03_Pair : tab n_ref03_Pair = some i_ref03_Pair := rfl
theorem t_ref03_Node : tab n_ref03_Node = some i_ref03_Node := rfl
theorem t_law03_DigestApart : tab n_law03_DigestApart = some i_law03_DigestApart := rfl
theorem t_law02_CoderReads : tab n_law02_CoderReads = some i_law02_CoderReads := rfl
theorem t_law02_pick : tab n_law02_pick = some i_law02_pick := rfl
theorem t_ref02_Reader_Number : tab n_ref02_Reader_Number = some i_ref02_Reader_Number := rfl
theorem t_ref02_Reader_Byte : tab n_ref02_Reader_Byte = some i_ref02_Reader_Byte := rfl
theorem t_coder_Reader_Bytes : tab n_coder_Reader_Bytes = some i_coder_Reader_Bytes := rfl
theorem t_ref02_Reader_Bytes : tab n_ref02_Reader_Bytes = some i_ref02_Reader_Bytes := rfl
theorem t_coder_Reader_End : tab n_coder_Reader_End = some i_coder_Reader_End := rfl
theorem t_law00_Code : tab n_law00_Code = some i_law00_Code := rfl
theorem t_ref02_Reader_End : tab n_ref02_Reader_End = some i_ref02_Reader_End := rfl
theorem t_law02_CoderBack : tab n_law02_CoderBack = some i_law02_CoderBack := rfl
def G0 : Cf := ⟨fun _ => [], true⟩
theorem G0_gf : G0.gf = true := rfl
attribute [go_sem] G0_gf
theorem ca_law01_ShaRounds (l : List AV) : cArgs tab n_law01_ShaRounds l = canonA [] l := rfl
attribute [go_sem] t_law01_ShaRounds ca_law01_ShaRounds
theorem ca_sha_Round (l : List AV) : cArgs tab n_sha_Round l = canonA [] l := rfl
attribute [go_sem] t_sha_Round ca_sha_Round
theorem ca_math_bits_RotateLeft32 (l : List AV) : cArgs tab n_math_bits_RotateLeft32 l = canonA [] l := rfl
attribute [go_sem] t_math_bits_RotateLeft32 ca_math_bits_RotateLeft32
theorem ca_ref01_Round (l : List AV) : cArgs tab n_ref01_Round l = canonA [] l := rfl
attribute [go_sem] t_ref01_Round ca_ref01_Round
theorem ca_ref01_turn (l : List AV) : cArgs tab n_ref01_turn l = canonA [] l := rfl
attribute [go_sem] t_ref01_turn ca_ref01_turn
theorem ca_law01_ShaTails (l : List AV) : cArgs tab n_law01_ShaTails l = canonA [] l := rfl
attribute [go_sem] t_law01_ShaTails ca_law01_ShaTails
theorem ca_sha_Tail (l : List AV) : cArgs tab n_sha_Tail l = canonA [] l := rfl
attribute [go_sem] t_sha_Tail ca_sha_Tail
theorem ca_ref01_Tail (l : List AV) : cArgs tab n_ref01_Tail l = canonA [] l := rfl
attribute [go_sem] t_ref01_Tail ca_ref01_Tail
theorem ca_law02_CoderNumbers (l : List AV) : cArgs tab n_law02_CoderNumbers l = canonA [] l := rfl
attribute [go_sem] t_law02_CoderNumbers ca_law02_CoderNumbers
theorem ca_coder_Number (l : List AV) : cArgs tab n_coder_Number l = canonA [] l := rfl
attribute [go_sem] t_coder_Number ca_coder_Number
theorem ca_ref02_Number (l : List AV) : cArgs tab n_ref02_Number l = canonA [] l := rfl
attribute [go_sem] t_ref02_Number ca_ref02_Number
theorem ca_law02_CoderBytes (l : List AV) : cArgs tab n_law02_CoderBytes l = canonA [] l := rfl
attribute [go_sem] t_law02_CoderBytes ca_law02_CoderBytes
theorem ca_coder_Bytes (l : List AV) : cArgs tab n_coder_Bytes l = canonA [] l := rfl
attribute [go_sem] t_coder_Bytes ca_coder_Bytes
theorem ca_ref02_Bytes (l : List AV) : cArgs tab n_ref02_Bytes l = canonA [] l := rfl
attribute [go_sem] t_ref02_Bytes ca_ref02_Bytes
theorem ca_law01_ShaWords (l : List AV) : cArgs tab n_law01_ShaWords l = canonA [] l := rfl
attribute [go_sem] t_law01_ShaWords ca_law01_ShaWords
theorem ca_sha_Words (l : List AV) : cArgs tab n_sha_Words l = canonA [] l := rfl
attribute [go_sem] t_sha_Words ca_sha_Words
theorem ca_ref01_Words (l : List AV) : cArgs tab n_ref01_Words l = canonA [] l := rfl
attribute [go_sem] t_ref01_Words ca_ref01_Words
theorem ca_law02_CoderApart (l : List AV) : cArgs tab n_law02_CoderApart l = canonA [] l := rfl
attribute [go_sem] t_law02_CoderApart ca_law02_CoderApart
theorem ca_coder_NewReader (l : List AV) : cArgs tab n_coder_NewReader l = canonA [] l := rfl
attribute [go_sem] t_coder_NewReader ca_coder_NewReader
theorem ca_slices_Clone_sl_byte_byte (l : List AV) : cArgs tab n_slices_Clone_sl_byte_byte l = canonA [] l := rfl
attribute [go_sem] t_slices_Clone_sl_byte_byte ca_slices_Clone_sl_byte_byte
theorem ca_coder_Reader_Number (l : List AV) : cArgs tab n_coder_Reader_Number l = canonA [] l := rfl
attribute [go_sem] t_coder_Reader_Number ca_coder_Reader_Number
theorem ca_coder_Reader_Byte (l : List AV) : cArgs tab n_coder_Reader_Byte l = canonA [] l := rfl
attribute [go_sem] t_coder_Reader_Byte ca_coder_Reader_Byte
theorem ca_coder_Reader_take (l : List AV) : cArgs tab n_coder_Reader_take l = canonA [] l := rfl
attribute [go_sem] t_coder_Reader_take ca_coder_Reader_take
theorem ca_law03_DigestPreimages (l : List AV) : cArgs tab n_law03_DigestPreimages l = canonA [] l := rfl
attribute [go_sem] t_law03_DigestPreimages ca_law03_DigestPreimages
theorem ca_law03_up (l : List AV) : cArgs tab n_law03_up l = canonA [] l := rfl
attribute [go_sem] t_law03_up ca_law03_up
theorem ca_digest_Pair (l : List AV) : cArgs tab n_digest_Pair l = canonA [] l := rfl
attribute [go_sem] t_digest_Pair ca_digest_Pair
theorem ca_digest_width (l : List AV) : cArgs tab n_digest_width l = canonA [] l := rfl
attribute [go_sem] t_digest_width ca_digest_width
theorem ca_slices_Concat_sl_byte_byte (l : List AV) : cArgs tab n_slices_Concat_sl_byte_byte l = canonA [] l := rfl
attribute [go_sem] t_slices_Concat_sl_byte_byte ca_slices_Concat_sl_byte_byte
theorem ca_slices_Grow_sl_byte_byte (l : List AV) : cArgs tab n_slices_Grow_sl_byte_byte l = canonA [true, false] l := rfl
attribute [go_sem] t_slices_Grow_sl_byte_byte ca_slices_Grow_sl_byte_byte
theorem ca_digest_None (l : List AV) : cArgs tab n_digest_None l = canonA [] l := rfl
attribute [go_sem] t_digest_None ca_digest_None
theorem ca_digest_Value (l : List AV) : cArgs tab n_digest_Value l = canonA [] l := rfl
attribute [go_sem] t_digest_Value ca_digest_Value
theorem ca_ref03_Value (l : List AV) : cArgs tab n_ref03_Value l = canonA [] l := rfl
attribute [go_sem] t_ref03_Value ca_ref03_Value
theorem ca_digest_Node (l : List AV) : cArgs tab n_digest_Node l = canonA [] l := rfl
attribute [go_sem] t_digest_Node ca_digest_Node
theorem ca_law03_may (l : List AV) : cArgs tab n_law03_may l = canonA [] l := rfl
attribute [go_sem] t_law03_may ca_law03_may
theorem ca_ref03_Pair (l : List AV) : cArgs tab n_ref03_Pair l = canonA [] l := rfl
attribute [go_sem] t_ref03_Pair ca_ref03_Pair
theorem ca_ref03_Node (l : List AV) : cArgs tab n_ref03_Node l = canonA [] l := rfl
attribute [go_sem] t_ref03_Node ca_ref03_Node
theorem ca_law03_DigestApart (l : List AV) : cArgs tab n_law03_DigestApart l = canonA [] l := rfl
attribute [go_sem] t_law03_DigestApart ca_law03_DigestApart
theorem ca_law02_CoderReads (l : List AV) : cArgs tab n_law02_CoderReads l = canonA [] l := rfl
attribute [go_sem] t_law02_CoderReads ca_law02_CoderReads
theorem ca_law02_pick (l : List AV) : cArgs tab n_law02_pick l = canonA [] l := rfl
attribute [go_sem] t_law02_pick ca_law02_pick
theorem ca_ref02_Reader_Number (l : List AV) : cArgs tab n_ref02_Reader_Number l = canonA [] l := rfl
attribute [go_sem] t_ref02_Reader_Number ca_ref02_Reader_Number
theorem ca_ref02_Reader_Byte (l : List AV) : cArgs tab n_ref02_Reader_Byte l = canonA [] l := rfl
attribute [go_sem] t_ref02_Reader_Byte ca_ref02_Reader_Byte
theorem ca_coder_Reader_Bytes (l : List AV) : cArgs tab n_coder_Reader_Bytes l = canonA [] l := rfl
attribute [go_sem] t_coder_Reader_Bytes ca_coder_Reader_Bytes
theorem ca_ref02_Reader_Bytes (l : List AV) : cArgs tab n_ref02_Reader_Bytes l = canonA [] l := rfl
attribute [go_sem] t_ref02_Reader_Bytes ca_ref02_Reader_Bytes
theorem ca_coder_Reader_End (l : List AV) : cArgs tab n_coder_Reader_End l = canonA [] l := rfl
attribute [go_sem] t_coder_Reader_End ca_coder_Reader_End
theorem ca_law00_Code (l : List AV) : cArgs tab n_law00_Code l = canonA [] l := rfl
attribute [go_sem] t_law00_Code ca_law00_Code
theorem ca_ref02_Reader_End (l : List AV) : cArgs tab n_ref02_Reader_End l = canonA [] l := rfl
attribute [go_sem] t_ref02_Reader_End ca_ref02_Reader_End
theorem ca_law02_CoderBack (l : List AV) : cArgs tab n_law02_CoderBack l = canonA [] l := rfl
attribute [go_sem] t_law02_CoderBack ca_law02_CoderBack
theorem kt_law01_ShaRounds_r (l : List AV) : keepT i_law01_ShaRounds_r l = keepT [false, false, false, false, false, false, true, false, false, false, false, false, false, false, false, false, false, false, false, false, false, false] l := rfl
attribute [go_sem] kt_law01_ShaRounds_r
theorem kt_sha_Round_r (l : List AV) : keepT i_sha_Round_r l = keepT [false, false, false, false, false, false, true, false, false, false, false, false, false, false, false, false, false, false, false, false, false, false, false, false, false, false, false, false, false, false, false, false, false, false, false, false, false, false, false, false, false, false, false, false, false, false, false, false, false, false, false, false, false, false, false, false, false, false, false, false, false, false, false, false, false, false, false, false, false, false, false, false, false, false, false, false, false, false, false, false, false, false, false, false, false] l := rfl
attribute [go_sem] kt_sha_Round_r
theorem kt_math_bits_RotateLeft32_r (l : List AV) : keepT i_math_bits_RotateLeft32_r l = keepT [false, false, false, false, true, false, false, false, false, false, false, false, false, false, false, false, false] l := rfl
attribute [go_sem] kt_math_bits_RotateLeft32_r
theorem kt_ref01_Round_r (l : List AV) : keepT i_ref01_Round_r l = keepT [false, false, false, false, false, false, true, false, false, false, false, false, false, false, false, false, false, false, false, false, false, false, false, false, false, false, false, false, false, false, false, false, false, false, false, false, false, false, false, false, false, false, false, false, false, false, false, false, false, false, false, false, false, false, false, false, false, false, false, false, false, false, false, false, false, false, false, false, false, false, false, false, false, false, false, false, false, false, false, false, false, false, false] l := rfl
attribute [go_sem] kt_ref01_Round_r
theorem kt_ref01_turn_r (l : List AV) : keepT i_ref01_turn_r l = keepT [false, false, false, false, true, false, false, false, false, false, false, false, false] l := rfl
attribute [go_sem] kt_ref01_turn_r
theorem kt_law01_ShaTails_r (l : List AV) : keepT i_law01_ShaTails_r l = keepT [false, false, true, false, false, false, false, false, false, false, false, false, false, false, false, false, false, false, false, false, false, false, false, false, false, false, false, false, false, false, false, false, false, false, false, false, false, false, false, false, false, false, false, false, false, false, false] l := rfl
attribute [go_sem] kt_law01_ShaTails_r
theorem kt_sha_Tail_r (l : List AV) : keepT i_sha_Tail_r l = keepT [false, false, true, true, false, false, false, false, false, false, false, false, false, false, false, false, false, false, false, false, false, false, false, false, false, false, false, false, false, false, false, false, false, false, false, false, false] l := rfl
attribute [go_sem] kt_sha_Tail_r
theorem kt_sha_Tail_j1 (l : List AV) : keepT i_sha_Tail_j1 l = keepT [true, false, false, false, true, false, false, false, false, false, false, false, false, false, false, false, false, false, false, false, false, false, false, false, false, false, false, false, false, false, false, false, false, false, false, false, false] l := rfl
attribute [go_sem] kt_sha_Tail_j1
theorem kt_sha_Tail_k0 (l : List AV) : keepT i_sha_Tail_k0 l = keepT [true, false, false, false, true, false, false, false, false, false, false, false, false, false, false, false, false, false, false, false, false, false, false, false, false, false, false, false, false, false, false, false, false, false, false, false, false] l := rfl
attribute [go_sem] kt_sha_Tail_k0
theorem kt_sha_Tail_j0 (l : List AV) : keepT i_sha_Tail_j0 l = keepT [true, false, false, false, true, false, false, false, false, false, false, false, false, false, false, false, false, false, false, false, false, false, false, false, false, false, false, false, false, false, false, false, false, false, false, false, false] l := rfl
attribute [go_sem] kt_sha_Tail_j0
theorem kt_sha_Tail_j3 (l : List AV) : keepT i_sha_Tail_j3 l = keepT [true, false, false, false, true, true, false, false, false, false, false, false, false, false, false, false, false, false, false, false, false, false, false, false, false, false, false, false, false, false, false, false, false, false, false, false, false] l := rfl
attribute [go_sem] kt_sha_Tail_j3
theorem kt_sha_Tail_k1 (l : List AV) : keepT i_sha_Tail_k1 l = keepT [true, false, false, false, true, true, false, false, false, false, false, false, false, false, false, false, false, false, false, false, false, false, false, false, false, false, false, false, false, false, false, false, false, false, false, false, false] l := rfl
attribute [go_sem] kt_sha_Tail_k1
theorem kt_sha_Tail_j2 (l : List AV) : keepT i_sha_Tail_j2 l = keepT [false, false, false, false, true, false, false, false, false, false, false, false, false, false, false, false, false, false, false, false, false, false, false, false, false, false, false, false, false, false, false, false, false, false, false, false, false] l := rfl
attribute [go_sem] kt_sha_Tail_j2
theorem kt_ref01_Tail_r (l : List AV) : keepT i_ref01_Tail_r l = keepT [false, false, true, false, false, false, false, false, false, false, false, false, false, false, false, false, false, false, false, false, false, false, false, false, false, false, false, false, false, false, false, false, false, false, false, false] l := rfl
attribute [go_sem] kt_ref01_Tail_r
theorem kt_ref01_Tail_j1 (l : List AV) : keepT i_ref01_Tail_j1 l = keepT [true, false, false, true, false, false, false, false, false, false, false, false, false, false, false, false, false, false, false, false, false, false, false, false, false, false, false, false, false, false, false, false, false, false, false, false] l := rfl
attribute [go_sem] kt_ref01_Tail_j1
theorem kt_ref01_Tail_k0 (l : List AV) : keepT i_ref01_Tail_k0 l = keepT [true, false, false, true, false, false, false, false, false, false, false, false, false, false, false, false, false, false, false, false, false, false, false, false, false, false, false, false, false, false, false, false, false, false, false, false] l := rfl
attribute [go_sem] kt_ref01_Tail_k0
theorem kt_ref01_Tail_j0 (l : List AV) : keepT i_ref01_Tail_j0 l = keepT [true, false, false, true, false, false, false, false, false, false, false, false, false, false, false, false, false, false, false, false, false, false, false, false, false, false, false, false, false, false, false, false, false, false, false, false] l := rfl
attribute [go_sem] kt_ref01_Tail_j0
theorem kt_ref01_Tail_j3 (l : List AV) : keepT i_ref01_Tail_j3 l = keepT [false, false, false, true, true, true, true, false, false, false, false, false, false, false, false, false, false, false, false, false, false, false, false, false, false, false, false, false, false, false, false, false, false, false, false, false] l := rfl
attribute [go_sem] kt_ref01_Tail_j3
theorem kt_ref01_Tail_k1 (l : List AV) : keepT i_ref01_Tail_k1 l = keepT [false, false, false, true, true, true, true, false, false, false, false, false, false, false, false, false, false, false, false, false, false, false, false, false, false, false, false, false, false, false, false, false, false, false, false, false] l := rfl
attribute [go_sem] kt_ref01_Tail_k1
theorem kt_ref01_Tail_j2 (l : List AV) : keepT i_ref01_Tail_j2 l = keepT [false, false, false, true, true, false, false, false, false, false, false, false, false, false, false, false, false, false, false, false, false, false, false, false, false, false, false, false, false, false, false, false, false, false, false, false] l := rfl
attribute [go_sem] kt_ref01_Tail_j2
theorem kt_law02_CoderNumbers_r (l : List AV) : keepT i_law02_CoderNumbers_r l = keepT [false, false, true, false, false, false, false, false, false, false, false, false, false, false, false] l := rfl
attribute [go_sem] kt_law02_CoderNumbers_r
theorem kt_coder_Number_r (l : List AV) : keepT i_coder_Number_r l = keepT [false, false, true, false, false, false, false, false, false, false, false, false, false, false, false, false, false, false, false, false, false, false, false, false, false, false, false, false, false, false, false, false, false, false, false, false, false, false, false, false, false, false, false] l := rfl
attribute [go_sem] kt_coder_Number_r
theorem kt_coder_Number_j1 (l : List AV) : keepT i_coder_Number_j1 l = keepT [true, false, false, true, false, false, false, false, false, false, false, false, false, false, false, false, false, false, false, false, false, false, false, false, false, false, false, false, false, false, false, false, false, false, false, false, false, false, false, false, false, false, false] l := rfl
attribute [go_sem] kt_coder_Number_j1
theorem kt_coder_Number_k0 (l : List AV) : keepT i_coder_Number_k0 l = keepT [true, false, false, true, false, false, false, false, false, false, false, false, false, false, false, false, false, false, false, false, false, false, false, false, false, false, false, false, false, false, false, false, false, false, false, false, false, false, false, false, false, false, false] l := rfl
attribute [go_sem] kt_coder_Number_k0
theorem kt_coder_Number_j0 (l : List AV) : keepT i_coder_Number_j0 l = keepT [true, false, false, true, false, false, false, false, false, false, false, false, false, false, false, false, false, false, false, false, false, false, false, false, false, false, false, false, false, false, false, false, false, false, false, false, false, false, false, false, false, false, false] l := rfl
attribute [go_sem] kt_coder_Number_j0
theorem kt_coder_Number_j3 (l : List AV) : keepT i_coder_Number_j3 l = keepT [true, false, false, true, true, false, false, false, false, false, false, false, false, false, false, false, false, false, false, false, false, false, false, false, false, false, true, true, false, false, false, false, false, false, false, false, false, false, false, false, false, false, false] l := rfl
attribute [go_sem] kt_coder_Number_j3
theorem kt_coder_Number_k1 (l : List AV) : keepT i_coder_Number_k1 l = keepT [true, false, false, true, true, false, false, false, false, false, false, false, false, false, false, false, false, false, false, false, false, false, false, false, false, false, true, true, false, false, false, false, false, false, false, false, false, false, false, false, false, false, false] l := rfl
attribute [go_sem] kt_coder_Number_k1
theorem kt_coder_Number_j2 (l : List AV) : keepT i_coder_Number_j2 l = keepT [false, false, false, false, true, false, false, false, false, false, false, false, false, false, false, false, false, false, false, false, false, false, false, false, false, false, false, false, false, false, false, false, false, false, false, false, false, false, false, false, false, false, false] l := rfl
attribute [go_sem] kt_coder_Number_j2
theorem kt_ref02_Number_r (l : List AV) : keepT i_ref02_Number_r l = keepT [false, false, true, false, false, false, false, false, false, false, false, false, false, false, false, false, false, false, false, false, false, false, false, false, false, false] l := rfl
attribute [go_sem] kt_ref02_Number_r
theorem kt_ref02_Number_j1 (l : List AV) : keepT i_ref02_Number_j1 l = keepT [true, false, false, true, false, false, false, false, false, false, false, false, false, false, false, false, false, false, false, false, false, false, false, false, false, false] l := rfl
attribute [go_sem] kt_ref02_Number_j1
theorem kt_ref02_Number_k0 (l : List AV) : keepT i_ref02_Number_k0 l = keepT [true, false, false, true, false, false, false, false, false, false, false, false, false, false, false, false, false, false, false, false, false, false, false, false, false, false] l := rfl
attribute [go_sem] kt_ref02_Number_k0
theorem kt_ref02_Number_j0 (l : List AV) : keepT i_ref02_Number_j0 l = keepT [false, false, false, true, false, false, false, false, false, false, false, false, false, false, false, false, false, false, false, false, false, false, false, false, false, false] l := rfl
attribute [go_sem] kt_ref02_Number_j0
theorem kt_law02_CoderBytes_r (l : List AV) : keepT i_law02_CoderBytes_r l = keepT [false, false, true, false, false, false, false, false, false, false, false, false, false, false, false, false, false] l := rfl
attribute [go_sem] kt_law02_CoderBytes_r
theorem kt_coder_Bytes_r (l : List AV) : keepT i_coder_Bytes_r l = keepT [false, false, true, false, false, false, false, false, false] l := rfl
attribute [go_sem] kt_coder_Bytes_r
theorem kt_ref02_Bytes_r (l : List AV) : keepT i_ref02_Bytes_r l = keepT [false, false, true, false, false, false, false, false, false] l := rfl
attribute [go_sem] kt_ref02_Bytes_r
theorem kt_law01_ShaWords_r (l : List AV) : keepT i_law01_ShaWords_r l = keepT [false, false, true, false, false, false, false, false, false, false, false, false, false, false, false, false, false, false, false, false, false, false, false, false, false, false, false, false, false, false, false, false, false, false, false, false, false, false, false, false, false, false, false, false, false, false, false, false, false, false, false, false, false, false, false, false, false, false, false] l := rfl
attribute [go_sem] kt_law01_ShaWords_r
theorem kt_law01_ShaWords_j1 (l : List AV) : keepT i_law01_ShaWords_j1 l = keepT [false, false, false, false, false, true, false, true, true, false, false, false, false, false, false, false, false, false, false, false, false, false, false, false, false, false, false, false, false, false, false, false, false, false, false, false, false, false, false, false, false, false, false, false, false, false, false, false, false, false, false, false, false, false, false, false, false, false, false] l := rfl
attribute [go_sem] kt_law01_ShaWords_j1
theorem kt_law01_ShaWords_k0 (l : List AV) : keepT i_law01_ShaWords_k0 l = keepT [false, false, false, false, false, true, false, true, true, false, false, false, false, false, false, false, false, false, false, false, false, false, false, false, false, false, false, false, false, false, false, false, false, false, false, false, false, false, false, false, false, false, false, false, false, false, false, false, false, false, false, false, false, false, false, false, false, false, false] l := rfl
attribute [go_sem] kt_law01_ShaWords_k0
theorem kt_law01_ShaWords_j0 (l : List AV) : keepT i_law01_ShaWords_j0 l = keepT [false, false, false, false, false, false, false, false, false, false, false, false, false, false, false, false, false, false, false, false, false, false, false, false, false, false, false, false, false, false, false, false, false, false, false, false, false, false, false, false, false, false, false, false, false, false, false, false, false, false, false, false, false, false, false, false, false, false, false] l := rfl
attribute [go_sem] kt_law01_ShaWords_j0
theorem kt_sha_Words_r (l : List AV) : keepT i_sha_Words_r l = keepT [false, false, true, true, false, false, false, false, false, false, false, false, false, false, false, false, false, false, false, false, false, false, false, false, false, false, false, false, false, false, false, false, false, false, false, false, false, false, false, false, false, false, false, false, false, false, false, false, false, false, false, false, false, false, false, false, false, false, false, false, false, false, false, false, false, false, false, false, false, false, false, false, false, false, false, false, false, false, false, false, false, false, false, false, false, false, false] l := rfl
attribute [go_sem] kt_sha_Words_r
theorem kt_sha_Words_j1 (l : List AV) : keepT i_sha_Words_j1 l = keepT [false, false, false, false, true, false, false, false, false, false, false, false, false, false, false, false, false, true, true, true, false, false, false, false, false, false, false, false, false, false, false, false, false, false, false, false, false, false, false, false, false, false, false, false, false, false, false, false, false, false, false, false, false, false, false, false, false, false, false, false, false, false, false, false, false, false, false, false, false, false, false, false, false, false, false, false, false, false, false, false, false, false, false, false, false, false, false] l := rfl
attribute [go_sem] kt_sha_Words_j1
theorem kt_sha_Words_k0 (l : List AV) : keepT i_sha_Words_k0 l = keepT [false, false, false, false, true, false, false, false, false, false, false, false, false, false, false, false, false, true, true, true, false, false, false, false, false, false, false, false, false, false, false, false, false, false, false, false, false, false, false, false, false, false, false, false, false, false, false, false, false, false, false, false, false, false, false, false, false, false, false, false, false, false, false, false, false, false, false, false, false, false, false, false, false, false, false, false, false, false, false, false, false, false, false, false, false, false, false] l := rfl
attribute [go_sem] kt_sha_Words_k0
theorem kt_sha_Words_j0 (l : List AV) : keepT i_sha_Words_j0 l = keepT [false, false, false, false, true, false, false, false, false, false, false, false, false, false, false, false, false, false, false, false, false, false, false, false, false, false, false, false, false, false, false, false, false, false, false, false, false, false, false, false, false, false, false, false, false, false, false, false, false, false, false, false, false, false, false, false, false, false, false, false, false, false, false, false, false, false, false, false, false, false, false, false, false, false, false, false, false, false, false, false, false, false, false, false, false, false, false] l := rfl
attribute [go_sem] kt_sha_Words_j0
theorem kt_sha_Words_j3 (l : List AV) : keepT i_sha_Words_j3 l = keepT [false, false, false, false, true, false, false, true, false, false, false, false, false, false, false, false, false, false, false, false, false, false, false, false, false, false, false, false, false, false, false, false, false, false, false, false, false, false, false, false, false, false, false, false, false, false, false, false, false, false, false, false, false, false, false, false, false, false, false, false, false, false, false, false, false, false, false, false, false, false, false, false, false, false, false, false, false, false, false, false, false, false, false, false, false, false, false] l := rfl
attribute [go_sem] kt_sha_Words_j3
theorem kt_sha_Words_k1 (l : List AV) : keepT i_sha_Words_k1 l = keepT [false, false, false, false, true, false, false, true, false, false, false, false, false, false, false, false, false, false, false, false, false, false, false, false, false, false, false, false, false, false, false, false, false, false, false, false, false, false, false, false, false, false, false, false, false, false, false, false, false, false, false, false, false, false, false, false, false, false, false, false, false, false, false, false, false, false, false, false, false, false, false, false, false, false, false, false, false, false, false, false, false, false, false, false, false, false, false] l := rfl
attribute [go_sem] kt_sha_Words_k1
theorem kt_sha_Words_j2 (l : List AV) : keepT i_sha_Words_j2 l = keepT [false, false, false, false, true, false, false, false, false, false, false, false, false, false, false, false, false, false, false, false, false, false, false, false, false, false, false, false, false, false, false, false, false, false, false, false, false, false, false, false, false, false, false, false, false, false, false, false, false, false, false, false, false, false, false, false, false, false, false, false, false, false, false, false, false, false, false, false, false, false, false, false, false, false, false, false, false, false, false, false, false, false, false, false, false, false, false] l := rfl
attribute [go_sem] kt_sha_Words_j2
theorem kt_ref01_Words_r (l : List AV) : keepT i_ref01_Words_r l = keepT [false, false, true, false, false, false, false, false, false, false, false, false, false, false, false, false, false, false, false, false, false, false, false, false, false, false, false, false, false, false, false, false, false, false, false, false, false, false, false, false, false, false, false, false, false, false, false, false, false, false, false, false, false, false, false, false, false, false, false, false, false, false, false, false, false, false, false, false, false, false, false, false, false, false, false, false, false, false, false, false, false, false, false, false, false, false, false, false, false, false, false, false, false, false, false, false] l := rfl
attribute [go_sem] kt_ref01_Words_r
theorem kt_ref01_Words_j3 (l : List AV) : keepT i_ref01_Words_j3 l = keepT [true, false, false, true, true, true, true, false, false, false, false, false, false, false, false, false, false, false, false, false, false, false, false, false, false, false, false, false, false, false, false, false, false, false, false, false, false, false, false, false, false, false, false, false, false, false, false, false, false, false, false, false, false, false, false, false, false, false, false, false, false, false, false, false, false, false, false, false, false, false, false, false, false, false, false, false, false, false, false, false, false, false, false, false, false, false, false, false, false, false, false, false, false, false, false, false] l := rfl
attribute [go_sem] kt_ref01_Words_j3
theorem kt_ref01_Words_k1 (l : List AV) : keepT i_ref01_Words_k1 l = keepT [true, false, false, true, true, true, true, false, false, false, false, false, false, false, false, false, false, false, false, false, false, false, false, false, false, false, false, false, false, false, false, false, false, false, false, false, false, false, false, false, false, false, false, false, false, false, false, false, false, false, false, false, false, false, false, false, false, false, false, false, false, false, false, false, false, false, false, false, false, false, false, false, false, false, false, false, false, false, false, false, false, false, false, false, false, false, false, false, false, false, false, false, false, false, false, false] l := rfl
attribute [go_sem] kt_ref01_Words_k1
theorem kt_ref01_Words_j2 (l : List AV) : keepT i_ref01_Words_j2 l = keepT [true, false, false, true, true, true, false, false, false, false, false, false, false, false, false, false, false, false, false, false, false, false, false, false, false, false, false, false, false, false, false, false, false, false, false, false, false, false, false, false, false, false, false, false, false, false, false, false, false, false, false, false, false, false, false, false, false, false, false, false, false, false, false, false, false, false, false, false, false, false, false, false, false, false, false, false, false, false, false, false, false, false, false, false, false, false, false, false, false, false, false, false, false, false, false, false] l := rfl
attribute [go_sem] kt_ref01_Words_j2
theorem kt_ref01_Words_j1 (l : List AV) : keepT i_ref01_Words_j1 l = keepT [true, false, false, true, true, false, false, false, false, false, false, false, false, false, false, false, false, false, false, false, false, false, false, false, false, false, false, false, false, false, false, false, false, false, false, false, false, false, false, false, false, false, false, false, false, false, false, false, false, false, false, false, false, false, false, false, false, false, false, false, false, false, false, false, false, false, false, false, false, false, false, false, false, false, false, false, false, false, false, false, false, false, false, false, false, false, false, false, false, false, false, false, false, false, false, false] l := rfl
attribute [go_sem] kt_ref01_Words_j1
theorem kt_ref01_Words_k0 (l : List AV) : keepT i_ref01_Words_k0 l = keepT [true, false, false, true, true, false, false, false, false, false, false, false, false, false, false, false, false, false, false, false, false, false, false, false, false, false, false, false, false, false, false, false, false, false, false, false, false, false, false, false, false, false, false, false, false, false, false, false, false, false, false, false, false, false, false, false, false, false, false, false, false, false, false, false, false, false, false, false, false, false, false, false, false, false, false, false, false, false, false, false, false, false, false, false, false, false, false, false, false, false, false, false, false, false, false, false] l := rfl
attribute [go_sem] kt_ref01_Words_k0
theorem kt_ref01_Words_j0 (l : List AV) : keepT i_ref01_Words_j0 l = keepT [false, false, false, true, false, false, false, false, false, false, false, false, false, false, false, false, false, false, false, false, false, false, false, false, false, false, false, false, false, false, false, false, false, false, false, false, false, false, false, false, false, false, false, false, false, false, false, false, false, false, false, false, false, false, false, false, false, false, false, false, false, false, false, false, false, false, false, false, false, false, false, false, false, false, false, false, false, false, false, false, false, false, false, false, false, false, false, false, false, false, false, false, false, false, false, false] l := rfl
attribute [go_sem] kt_ref01_Words_j0
theorem kt_ref01_Words_j5 (l : List AV) : keepT i_ref01_Words_j5 l = keepT [false, false, false, true, false, false, false, true, false, false, false, false, false, false, false, false, false, false, false, false, false, false, false, false, false, false, false, false, false, false, false, false, false, false, false, false, false, false, false, false, false, false, false, false, false, false, false, false, false, false, false, false, false, false, false, false, false, false, false, false, false, false, false, false, false, false, false, false, false, false, false, false, false, false, false, false, false, false, false, false, false, false, false, false, false, false, false, false, false, false, false, false, false, false, false, false] l := rfl
attribute [go_sem] kt_ref01_Words_j5
theorem kt_ref01_Words_k2 (l : List AV) : keepT i_ref01_Words_k2 l = keepT [false, false, false, true, false, false, false, true, false, false, false, false, false, false, false, false, false, false, false, false, false, false, false, false, false, false, false, false, false, false, false, false, false, false, false, false, false, false, false, false, false, false, false, false, false, false, false, false, false, false, false, false, false, false, false, false, false, false, false, false, false, false, false, false, false, false, false, false, false, false, false, false, false, false, false, false, false, false, false, false, false, false, false, false, false, false, false, false, false, false, false, false, false, false, false, false] l := rfl
attribute [go_sem] kt_ref01_Words_k2
theorem kt_ref01_Words_j4 (l : List AV) : keepT i_ref01_Words_j4 l = keepT [false, false, false, true, false, false, false, false, false, false, false, false, false, false, false, false, false, false, false, false, false, false, false, false, false, false, false, false, false, false, false, false, false, false, false, false, false, false, false, false, false, false, false, false, false, false, false, false, false, false, false, false, false, false, false, false, false, false, false, false, false, false, false, false, false, false, false, false, false, false, false, false, false, false, false, false, false, false, false, false, false, false, false, false, false, false, false, false, false, false, false, false, false, false, false, false] l := rfl
attribute [go_sem] kt_ref01_Words_j4
theorem kt_law02_CoderApart_r (l : List AV) : keepT i_law02_CoderApart_r l = keepT [false, false, false, false, false, false, true, false, false, false, false, false, false, false, false, false, false, false, false, false, false, false, false, false, false, false, false, false, false, false, false, false, false, false, false, false, false, false, false, false, false, false, false, false, false, false, false, false, false, false, false, false, false, false, false, false, false] l := rfl
attribute [go_sem] kt_law02_CoderApart_r
theorem kt_coder_NewReader_r (l : List AV) : keepT i_coder_NewReader_r l = keepT [false, false, true, false, false, false, false] l := rfl
attribute [go_sem] kt_coder_NewReader_r
theorem kt_slices_Clone_sl_byte_byte_r (l : List AV) : keepT i_slices_Clone_sl_byte_byte_r l = keepT [false, false, true, false, false, false, false, false] l := rfl
attribute [go_sem] kt_slices_Clone_sl_byte_byte_r
theorem kt_coder_Reader_Number_r (l : List AV) : keepT i_coder_Reader_Number_r l = keepT [false, false, true, false, false, false, false, false, false, false, false, false, false, false, false, false, false, false, false, false, false, false, false, false, false, false, false, false, false, false, false, false, false, false, false, false, false, false, false, false, false, false, false, false, false, false, false, false] l := rfl
attribute [go_sem] kt_coder_Reader_Number_r
theorem kt_coder_Reader_Number_j1 (l : List AV) : keepT i_coder_Reader_Number_j1 l = keepT [true, false, false, false, true, true, false, false, false, false, false, false, false, false, false, false, false, false, false, true, true, true, false, false, false, false, false, false, false, false, false, false, false, false, false, false, false, false, false, false, false, false, false, false, false, false, false, false] l := rfl
attribute [go_sem] kt_coder_Reader_Number_j1
theorem kt_coder_Reader_Number_k0 (l : List AV) : keepT i_coder_Reader_Number_k0 l = keepT [true, false, false, false, true, true, false, false, false, false, false, false, false, false, false, false, false, false, false, true, true, true, false, false, false, false, false, false, false, false, false, false, false, false, false, false, false, false, false, false, false, false, false, false, false, false, false, false] l := rfl
attribute [go_sem] kt_coder_Reader_Number_k0
theorem kt_coder_Reader_Number_j0 (l : List AV) : keepT i_coder_Reader_Number_j0 l = keepT [true, false, false, false, true, true, false, false, false, false, false, false, false, false, false, false, false, false, false, false, false, false, false, false, false, false, false, false, false, false, false, false, false, false, false, false, false, false, false, false, false, false, false, false, false, false, false, false] l := rfl
attribute [go_sem] kt_coder_Reader_Number_j0
theorem kt_coder_Reader_Byte_r (l : List AV) : keepT i_coder_Reader_Byte_r l = keepT [false, false, true, false, false, false, false, false, false, false, false, false] l := rfl
attribute [go_sem] kt_coder_Reader_Byte_r
theorem kt_coder_Reader_take_r (l : List AV) : keepT i_coder_Reader_take_r l = keepT [false, false, false, false, true, false, false, false, false, false, false, false, false, false, false, false, false, false, false, false, false, false, false, false, false, false, false, false, false, false, false, false, false, false, false, false, false, false, false] l := rfl
attribute [go_sem] kt_coder_Reader_take_r
theorem kt_law03_DigestPreimages_r (l : List AV) : keepT i_law03_DigestPreimages_r l = keepT [false, false, false, false, false, false, false, false, true, false, false, false, false, false, false, false, false, false, false, false, false, false, false, false, false, false, false, false, false, false, false, false, false, false, false, false, false, false, false, false, false, false, false, false, false, false, false, false, false, false, false, false, false, false, false, false, false, false, false, false, false, false, false, false, false, false, false, false, false, false, false, false, false, false, false, false, false, false, false, false, false, false, false, false, false, false, false, false, false, false, false, false, false, false, false, false, false, false, false, false, false, false, false, false, false, false, false, false, false, false, false, false, false, false, false, false, false, false, false, false, false, false, false, false, false, false, false, false] l := rfl
attribute [go_sem] kt_law03_DigestPreimages_r
theorem kt_law03_up_r (l : List AV) : keepT i_law03_up_r l = keepT [true, false, false, false, false, false, false, false, false, false, false, false, false, false, false, false, false, false, false, false, false, false] l := rfl
attribute [go_sem] kt_law03_up_r
theorem kt_digest_Pair_r (l : List AV) : keepT i_digest_Pair_r l = keepT [false, false, false, false, false, false, true, true, false, false, false, false, false, false, false, false, false, false, false, false, false, false, false, false] l := rfl
attribute [go_sem] kt_digest_Pair_r
theorem kt_digest_width_r (l : List AV) : keepT i_digest_width_r l = keepT [false, false, true, false, false, false, false, false, false] l := rfl
attribute [go_sem] kt_digest_width_r
theorem kt_slices_Concat_sl_byte_byte_r (l : List AV) : keepT i_slices_Concat_sl_byte_byte_r l = keepT [false, false, true, false, false, false, false, false, false, false, false, false, false, false, false, false, false, false, false, false, false, false, false, false, false, false, false, false, false, false, false, false, false, false, false, false] l := rfl
attribute [go_sem] kt_slices_Concat_sl_byte_byte_r
theorem kt_slices_Concat_sl_byte_byte_j1 (l : List AV) : keepT i_slices_Concat_sl_byte_byte_j1 l = keepT [true, false, false, true, false, false, false, false, false, true, true, true, false, false, false, false, false, false, false, false, false, false, false, false, false, false, false, false, false, false, false, false, false, false, false, false] l := rfl
attribute [go_sem] kt_slices_Concat_sl_byte_byte_j1
theorem kt_slices_Concat_sl_byte_byte_k0 (l : List AV) : keepT i_slices_Concat_sl_byte_byte_k0 l = keepT [true, false, false, true, false, false, false, false, false, true, true, true, false, false, false, false, false, false, false, false, false, false, false, false, false, false, false, false, false, false, false, false, false, false, false, false] l := rfl
attribute [go_sem] kt_slices_Concat_sl_byte_byte_k0
theorem kt_slices_Concat_sl_byte_byte_j0 (l : List AV) : keepT i_slices_Concat_sl_byte_byte_j0 l = keepT [true, false, false, true, false, false, false, false, false, false, false, false, false, false, false, false, false, false, false, false, false, false, false, false, false, false, false, false, false, false, false, false, false, false, false, false] l := rfl
attribute [go_sem] kt_slices_Concat_sl_byte_byte_j0
theorem kt_slices_Concat_sl_byte_byte_j3 (l : List AV) : keepT i_slices_Concat_sl_byte_byte_j3 l = keepT [false, false, false, false, false, false, true, false, false, false, false, false, false, false, false, false, false, false, false, false, false, false, false, false, false, true, true, true, false, false, false, false, false, false, false, false] l := rfl
attribute [go_sem] kt_slices_Concat_sl_byte_byte_j3
theorem kt_slices_Concat_sl_byte_byte_k1 (l : List AV) : keepT i_slices_Concat_sl_byte_byte_k1 l = keepT [false, false, false, false, false, false, true, false, false, false, false, false, false, false, false, false, false, false, false, false, false, false, false, false, false, true, true, true, false, false, false, false, false, false, false, false] l := rfl
attribute [go_sem] kt_slices_Concat_sl_byte_byte_k1
theorem kt_slices_Concat_sl_byte_byte_j2 (l : List AV) : keepT i_slices_Concat_sl_byte_byte_j2 l = keepT [false, false, false, false, false, false, true, false, false, false, false, false, false, false, false, false, false, false, false, false, false, false, false, false, false, false, false, false, false, false, false, false, false, false, false, false] l := rfl
attribute [go_sem] kt_slices_Concat_sl_byte_byte_j2
theorem kt_slices_Grow_sl_byte_byte_r (l : List AV) : keepT i_slices_Grow_sl_byte_byte_r l = keepT [false, false, false, false, true, false, false, false, false, false, false, false, false, false, false, false, false, false, false, false, false, false, false, false, false, false, false] l := rfl
attribute [go_sem] kt_slices_Grow_sl_byte_byte_r
theorem kt_digest_None_r (l : List AV) : keepT i_digest_None_r l = keepT [true, false] l := rfl
attribute [go_sem] kt_digest_None_r
theorem kt_digest_Value_r (l : List AV) : keepT i_digest_Value_r l = keepT [false, false, true, false, false, false] l := rfl
attribute [go_sem] kt_digest_Value_r
theorem kt_ref03_Value_r (l : List AV) : keepT i_ref03_Value_r l = keepT [false, false, true, false, false, false] l := rfl
attribute [go_sem] kt_ref03_Value_r
theorem kt_digest_Node_r (l : List AV) : keepT i_digest_Node_r l = keepT [false, false, false, false, false, false, false, false, true, true, false, false, false, false, false, false, false, false, false, false, false, false, false, false, false, false, false, false, false, false, false, false, false, false, false, false, false, false] l := rfl
attribute [go_sem] kt_digest_Node_r
theorem kt_law03_may_r (l : List AV) : keepT i_law03_may_r l = keepT [false, false, true, false, false, false, false, false, false] l := rfl
attribute [go_sem] kt_law03_may_r
theorem kt_ref03_Pair_r (l : List AV) : keepT i_ref03_Pair_r l = keepT [false, false, false, false, true, false, false, false, false, false, false, false, false] l := rfl
attribute [go_sem] kt_ref03_Pair_r
theorem kt_ref03_Node_r (l : List AV) : keepT i_ref03_Node_r l = keepT [false, false, false, false, false, false, true, false, false, false, false, false, false, false, false, false, false] l := rfl
attribute [go_sem] kt_ref03_Node_r
theorem kt_law03_DigestApart_r (l : List AV) : keepT i_law03_DigestApart_r l = keepT [false, false, false, false, false, false, false, false, false, false, true, false, false, false, false, false, false, false, false, false, false, false, false, false, false, false, false, false, false, false, false, false, false, false, false, false, false, false, false, false, false, false, false, false, false, false, false, false, false, false, false, false, false, false, false, false, false, false, false, false, false, false, false, false, false, false, false, false, false, false, false, false, false, false, false, false, false, false, false, false, false, false, false, false, false, false, false, false, false, false, false, false, false, false, false, false, false, false, false, false, false, false, false, false, false, false, false, false, false, false, false, false, false, false, false, false, false, false, false, false, false, false, false, false, false, false, false, false, false, false, false, false, false, false, false, false, false, false, false, false, false, false, false, false, false, false, false, false, false, false, false, false, false, false, false, false, false, false, false, false, false, false, false, false, false, false, false, false, false, false, false, false, false, false, false, false, false, false, false, false, false, false, false, false, false, false, false, false, false, false, false, false, false, false, false, false, false, false, false] l := rfl
attribute [go_sem] kt_law03_DigestApart_r
theorem kt_law03_DigestApart_j1 (l : List AV) : keepT i_law03_DigestApart_j1 l = keepT [true, true, true, true, true, false, false, false, false, false, false, true, false, true, true, true, false, false, false, false, false, false, false, false, false, false, false, false, false, false, false, false, false, false, false, false, false, false, false, false, false, false, false, false, false, false, false, false, false, false, false, false, false, false, false, false, false, false, false, false, false, false, false, false, false, false, false, false, false, false, false, false, false, false, false, false, false, false, false, false, false, false, false, false, false, false, false, false, false, false, false, false, false, false, false, false, false, false, false, false, false, false, false, false, false, false, false, false, false, false, false, false, false, false, false, false, false, false, false, false, false, false, false, false, false, false, false, false, false, false, false, false, false, false, false, false, false, false, false, false, false, false, false, false, false, false, false, false, false, false, false, false, false, false, false, false, false, false, false, false, false, false, false, false, false, false, false, false, false, false, false, false, false, false, false, false, false, false, false, false, false, false, false, false, false, false, false, false, false, false, false, false, false, false, false, false, false, false, false] l := rfl
attribute [go_sem] kt_law03_DigestApart_j1
theorem kt_law03_DigestApart_k0 (l : List AV) : keepT i_law03_DigestApart_k0 l = keepT [true, true, true, true, true, false, false, false, false, false, false, true, false, true, true, true, false, false, false, false, false, false, false, false, false, false, false, false, false, false, false, false, false, false, false, false, false, false, false, false, false, false, false, false, false, false, false, false, false, false, false, false, false, false, false, false, false, false, false, false, false, false, false, false, false, false, false, false, false, false, false, false, false, false, false, false, false, false, false, false, false, false, false, false, false, false, false, false, false, false, false, false, false, false, false, false, false, false, false, false, false, false, false, false, false, false, false, false, false, false, false, false, false, false, false, false, false, false, false, false, false, false, false, false, false, false, false, false, false, false, false, false, false, false, false, false, false, false, false, false, false, false, false, false, false, false, false, false, false, false, false, false, false, false, false, false, false, false, false, false, false, false, false, false, false, false, false, false, false, false, false, false, false, false, false, false, false, false, false, false, false, false, false, false, false, false, false, false, false, false, false, false, false, false, false, false, false, false, false] l := rfl
attribute [go_sem] kt_law03_DigestApart_k0
theorem kt_law03_DigestApart_j0 (l : List AV) : keepT i_law03_DigestApart_j0 l = keepT [true, true, true, false, false, false, false, false, false, false, false, true, false, true, true, false, false, false, false, false, false, false, false, false, false, false, false, false, false, false, false, false, false, false, false, false, false, false, false, false, false, false, false, false, false, false, false, false, false, false, false, false, false, false, false, false, false, false, false, false, false, false, false, false, false, false, false, false, false, false, false, false, false, false, false, false, false, false, false, false, false, false, false, false, false, false, false, false, false, false, false, false, false, false, false, false, false, false, false, false, false, false, false, false, false, false, false, false, false, false, false, false, false, false, false, false, false, false, false, false, false, false, false, false, false, false, false, false, false, false, false, false, false, false, false, false, false, false, false, false, false, false, false, false, false, false, false, false, false, false, false, false, false, false, false, false, false, false, false, false, false, false, false, false, false, false, false, false, false, false, false, false, false, false, false, false, false, false, false, false, false, false, false, false, false, false, false, false, false, false, false, false, false, false, false, false, false, false, false] l := rfl
attribute [go_sem] kt_law03_DigestApart_j0
theorem kt_law02_CoderReads_r (l : List AV) : keepT i_law02_CoderReads_r l = keepT [false, false, false, false, true, false, false, false, false, false, false, false, false, false, false, false, false, false, false, false, false, false, false, false, false, false, false, false, false, false, false, false, false, false, false, false, false, false, false, false, false, false, false, false, false, false, false, false, false, false, false, false, false, false, false, false, false, false, false, false, false, false, false, false, false, false, false, false, false, false, false, false, false, false, false, false, false, false, false, false, false, false, false, false, false, false, false, false] l := rfl
attribute [go_sem] kt_law02_CoderReads_r
theorem kt_law02_CoderReads_j2 (l : List AV) : keepT i_law02_CoderReads_j2 l = keepT [false, true, false, false, false, true, true, true, true, false, false, false, false, false, false, false, false, false, false, false, false, false, false, false, false, false, false, false, false, false, false, false, false, false, false, false, false, false, false, false, false, false, false, false, false, false, false, false, false, false, false, false, false, false, false, false, false, false, false, false, false, false, false, false, false, false, false, false, false, false, false, false, false, false, false, false, false, false, false, false, false, false, false, false, false, false, false, false] l := rfl
attribute [go_sem] kt_law02_CoderReads_j2
theorem kt_law02_CoderReads_j1 (l : List AV) : keepT i_law02_CoderReads_j1 l = keepT [false, true, false, false, false, true, true, true, false, false, false, false, false, false, false, false, false, false, false, false, false, false, false, false, false, false, false, false, false, false, false, false, false, false, false, false, false, false, false, false, false, false, false, false, false, false, false, false, false, false, false, false, false, false, false, false, false, false, false, false, false, false, false, false, false, false, false, false, false, false, false, false, false, false, false, false, false, false, false, false, false, false, false, false, false, false, false, false] l := rfl
attribute [go_sem] kt_law02_CoderReads_j1
theorem kt_law02_CoderReads_k0 (l : List AV) : keepT i_law02_CoderReads_k0 l = keepT [false, true, false, false, false, true, true, true, false, false, false, false, false, false, false, false, false, false, false, false, false, false, false, false, false, false, false, false, false, false, false, false, false, false, false, false, false, false, false, false, false, false, false, false, false, false, false, false, false, false, false, false, false, false, false, false, false, false, false, false, false, false, false, false, false, false, false, false, false, false, false, false, false, false, false, false, false, false, false, false, false, false, false, false, false, false, false, false] l := rfl
attribute [go_sem] kt_law02_CoderReads_k0
theorem kt_law02_CoderReads_j0 (l : List AV) : keepT i_law02_CoderReads_j0 l = keepT [false, false, false, false, false, true, true, false, false, false, false, false, false, false, false, false, false, false, false, false, false, false, false, false, false, false, false, false, false, false, false, false, false, false, false, false, false, false, false, false, false, false, false, false, false, false, false, false, false, false, false, false, false, false, false, false, false, false, false, false, false, false, false, false, false, false, false, false, false, false, false, false, false, false, false, false, false, false, false, false, false, false, false, false, false, false, false, false] l := rfl
attribute [go_sem] kt_law02_CoderReads_j0
theorem kt_law02_pick_r (l : List AV) : keepT i_law02_pick_r l = keepT [false, false, false, false, true, false, false, false, false, false, false, false, false] l := rfl
attribute [go_sem] kt_law02_pick_r
theorem kt_ref02_Reader_Number_r (l : List AV) : keepT i_ref02_Reader_Number_r l = keepT [false, false, true, false, false, false, false, false, false, false, false, false, false, false, false, false, false, false, false, false, false, false, false, false, false, false, false, false, false, false, false, false, false, false, false, false, false, false, false, false, false, false, false, false, false, false, false, false, false, false, false, false, false, false, false, false, false, false, false, false, false, false, false, false, false, false, false, false, false, false, false, false, false, false, false, false, false, false, false, false, false, false, false, false, false, false] l := rfl
attribute [go_sem] kt_ref02_Reader_Number_r
theorem kt_ref02_Reader_Number_j1 (l : List AV) : keepT i_ref02_Reader_Number_j1 l = keepT [true, false, false, false, true, true, true, false, false, false, false, false, false, false, false, false, false, false, false, false, false, false, false, false, false, false, false, false, false, false, false, false, false, false, false, false, false, false, false, false, false, false, false, false, false, false, false, false, false, false, false, false, false, false, false, false, false, false, false, false, false, false, false, false, false, false, false, false, false, false, false, false, false, false, false, false, false, false, false, false, false, false, false, false, false, false] l := rfl
attribute [go_sem] kt_ref02_Reader_Number_j1
theorem kt_ref02_Reader_Number_k0 (l : List AV) : keepT i_ref02_Reader_Number_k0 l = keepT [true, false, false, false, true, true, true, false, false, false, false, false, false, false, false, false, false, false, false, false, false, false, false, false, false, false, false, false, false, false, false, false, false, false, false, false, false, false, false, false, false, false, false, false, false, false, false, false, false, false, false, false, false, false, false, false, false, false, false, false, false, false, false, false, false, false, false, false, false, false, false, false, false, false, false, false, false, false, false, false, false, false, false, false, false, false] l := rfl
attribute [go_sem] kt_ref02_Reader_Number_k0
theorem kt_ref02_Reader_Number_j0 (l : List AV) : keepT i_ref02_Reader_Number_j0 l = keepT [true, false, false, false, true, true, false, false, false, false, false, false, false, false, false, false, false, false, false, false, false, false, false, false, false, false, false, false, false, false, false, false, false, false, false, false, false, false, false, false, false, false, false, false, false, false, false, false, false, false, false, false, false, false, false, false, false, false, false, false, false, false, false, false, false, false, false, false, false, false, false, false, false, false, false, false, false, false, false, false, false, false, false, false, false, false] l := rfl
attribute [go_sem] kt_ref02_Reader_Number_j0
theorem kt_ref02_Reader_Byte_r (l : List AV) : keepT i_ref02_Reader_Byte_r l = keepT [false, false, true, false, false, false, false, false, false, false, false, false, false, false, false, false, false, false, false, false, false, false, false, false, false, false, false, false, false, false, false, false, false, false, false, false, false, false, false, false] l := rfl
attribute [go_sem] kt_ref02_Reader_Byte_r
theorem kt_coder_Reader_Bytes_r (l : List AV) : keepT i_coder_Reader_Bytes_r l = keepT [false, false, false, false, true, false, false, false, false, false, false, false, false, false, false, false, false, false, false, false, false, false, false, false, false, false, false, false, false, false, false, false, false, false, false, false, false, false, false] l := rfl
attribute [go_sem] kt_coder_Reader_Bytes_r
theorem kt_ref02_Reader_Bytes_r (l : List AV) : keepT i_ref02_Reader_Bytes_r l = keepT [false, false, false, false, true, false, false, false, false, false, false, false, false, false, false, false, false, false, false, false, false, false, false, false, false, false, false, false, false, false, false, false, false, false, false, false, false, false, false, false, false, false, false, false, false, false, false, false, false, false, false, false, false, false, false, false, false, false, false, false, false, false, false, false, false, false, false, false, false, false] l := rfl
attribute [go_sem] kt_ref02_Reader_Bytes_r
theorem kt_coder_Reader_End_r (l : List AV) : keepT i_coder_Reader_End_r l = keepT [false, false, true, false, false, false, false, false, false, false, false, false, false, false, false, false, false] l := rfl
attribute [go_sem] kt_coder_Reader_End_r
theorem kt_coder_Reader_End_j0 (l : List AV) : keepT i_coder_Reader_End_j0 l = keepT [false, false, false, false, false, false, false, false, false, false, false, false, false, false, false, false, false] l := rfl
attribute [go_sem] kt_coder_Reader_End_j0
theorem kt_law00_Code_r (l : List AV) : keepT i_law00_Code_r l = keepT [false, false, true, false, false, false, false, false, false, false, false, false, false, false, false] l := rfl
attribute [go_sem] kt_law00_Code_r
theorem kt_law00_Code_j1 (l : List AV) : keepT i_law00_Code_j1 l = keepT [true, false, false, true, false, false, false, false, false, false, false, false, false, false, false] l := rfl
attribute [go_sem] kt_law00_Code_j1
theorem kt_law00_Code_k0 (l : List AV) : keepT i_law00_Code_k0 l = keepT [true, false, false, true, false, false, false, false, false, false, false, false, false, false, false] l := rfl
attribute [go_sem] kt_law00_Code_k0
theorem kt_law00_Code_j0 (l : List AV) : keepT i_law00_Code_j0 l = keepT [false, false, false, false, false, false, false, false, false, false, false, false, false, false, false] l := rfl
attribute [go_sem] kt_law00_Code_j0
theorem kt_ref02_Reader_End_r (l : List AV) : keepT i_ref02_Reader_End_r l = keepT [false, false, true, false, false, false, false, false, false, false, false, false, false, false, false, false, false] l := rfl
attribute [go_sem] kt_ref02_Reader_End_r
theorem kt_law02_CoderBack_r (l : List AV) : keepT i_law02_CoderBack_r l = keepT [false, false, false, false, true, false, false, false, false, false, false, false, false, false, false, false, false, false, false, false, false, false, false, false, false, false, false, false, false, false, false, false, false, false, false, false, false, false, false, false, false, false, false, false, false, false, false, false, false, false, false, false, false, false, false, false, false, false, false, false, false, false, false, false, false, false, false, false, false, false, false, false, false, false, false, false, false, false, false, false, false, false, false, false, false, false, false, false, false, false, false, false, false, false, false, false, false, false, false, false, false] l := rfl
attribute [go_sem] kt_law02_CoderBack_r
theorem kt_law02_CoderBack_j1 (l : List AV) : keepT i_law02_CoderBack_j1 l = keepT [true, true, false, false, false, true, true, false, false, false, false, false, false, false, false, false, false, false, false, false, false, false, false, false, false, false, false, false, false, false, false, false, false, false, false, false, false, false, false, false, false, false, false, false, false, false, false, false, false, false, false, false, false, false, false, false, false, false, false, false, false, false, false, false, false, false, false, false, false, false, false, false, false, false, false, false, false, false, false, false, false, false, false, false, false, false, false, false, false, false, false, false, false, false, false, false, false, false, false, false, false] l := rfl
attribute [go_sem] kt_law02_CoderBack_j1
theorem kt_law02_CoderBack_k0 (l : List AV) : keepT i_law02_CoderBack_k0 l = keepT [true, true, false, false, false, true, true, false, false, false, false, false, false, false, false, false, false, false, false, false, false, false, false, false, false, false, false, false, false, false, false, false, false, false, false, false, false, false, false, false, false, false, false, false, false, false, false, false, false, false, false, false, false, false, false, false, false, false, false, false, false, false, false, false, false, false, false, false, false, false, false, false, false, false, false, false, false, false, false, false, false, false, false, false, false, false, false, false, false, false, false, false, false, false, false, false, false, false, false, false, false] l := rfl
attribute [go_sem] kt_law02_CoderBack_k0
theorem kt_law02_CoderBack_j0 (l : List AV) : keepT i_law02_CoderBack_j0 l = keepT [true, true, false, false, false, true, false, false, false, false, false, false, false, false, false, false, false, false, false, false, false, false, false, false, false, false, false, false, false, false, false, false, false, false, false, false, false, false, false, false, false, false, false, false, false, false, false, false, false, false, false, false, false, false, false, false, false, false, false, false, false, false, false, false, false, false, false, false, false, false, false, false, false, false, false, false, false, false, false, false, false, false, false, false, false, false, false, false, false, false, false, false, false, false, false, false, false, false, false, false, false] l := rfl
attribute [go_sem] kt_law02_CoderBack_j0
theorem kt_law02_CoderBack_j3 (l : List AV) : keepT i_law02_CoderBack_j3 l = keepT [true, true, false, false, false, true, false, true, false, false, false, false, false, false, false, false, false, false, false, false, false, false, false, false, false, false, false, false, false, false, false, false, false, false, false, false, false, false, false, false, false, false, false, false, false, false, false, false, false, false, false, false, false, false, false, false, false, false, false, false, false, false, false, false, false, false, false, false, false, false, false, false, false, false, false, false, false, false, false, false, false, false, false, false, false, false, false, false, false, false, false, false, false, false, false, false, false, false, false, false, false] l := rfl
attribute [go_sem] kt_law02_CoderBack_j3
theorem kt_law02_CoderBack_k1 (l : List AV) : keepT i_law02_CoderBack_k1 l = keepT [true, true, false, false, false, true, false, true, false, false, false, false, false, false, false, false, false, false, false, false, false, false, false, false, false, false, false, false, false, false, false, false, false, false, false, false, false, false, false, false, false, false, false, false, false, false, false, false, false, false, false, false, false, false, false, false, false, false, false, false, false, false, false, false, false, false, false, false, false, false, false, false, false, false, false, false, false, false, false, false, false, false, false, false, false, false, false, false, false, false, false, false, false, false, false, false, false, false, false, false, false] l := rfl
attribute [go_sem] kt_law02_CoderBack_k1
theorem kt_law02_CoderBack_j2 (l : List AV) : keepT i_law02_CoderBack_j2 l = keepT [true, true, false, false, false, true, false, false, false, false, false, false, false, false, false, false, false, false, false, false, false, false, false, false, false, false, false, false, false, false, false, false, false, false, false, false, false, false, false, false, false, false, false, false, false, false, false, false, false, false, false, false, false, false, false, false, false, false, false, false, false, false, false, false, false, false, false, false, false, false, false, false, false, false, false, false, false, false, false, false, false, false, false, false, false, false, false, false, false, false, false, false, false, false, false, false, false, false, false, false, false] l := rfl
attribute [go_sem] kt_law02_CoderBack_j2
theorem kt_law02_CoderBack_j5 (l : List AV) : keepT i_law02_CoderBack_j5 l = keepT [true, true, false, false, false, false, false, false, true, true, false, false, false, false, false, false, false, false, false, false, false, false, false, false, false, false, false, false, false, false, false, false, false, false, false, false, false, false, false, false, false, false, false, false, false, false, false, false, false, false, false, false, false, false, false, false, false, false, false, false, false, false, false, false, false, false, false, false, false, false, false, false, false, false, false, false, false, false, false, false, false, false, false, false, false, false, false, false, false, false, false, false, false, false, false, false, false, false, false, false, false] l := rfl
attribute [go_sem] kt_law02_CoderBack_j5
theorem kt_law02_CoderBack_k2 (l : List AV) : keepT i_law02_CoderBack_k2 l = keepT [true, true, false, false, false, false, false, false, true, true, false, false, false, false, false, false, false, false, false, false, false, false, false, false, false, false, false, false, false, false, false, false, false, false, false, false, false, false, false, false, false, false, false, false, false, false, false, false, false, false, false, false, false, false, false, false, false, false, false, false, false, false, false, false, false, false, false, false, false, false, false, false, false, false, false, false, false, false, false, false, false, false, false, false, false, false, false, false, false, false, false, false, false, false, false, false, false, false, false, false, false] l := rfl
attribute [go_sem] kt_law02_CoderBack_k2
theorem kt_law02_CoderBack_j4 (l : List AV) : keepT i_law02_CoderBack_j4 l = keepT [false, true, false, false, false, false, false, false, true, false, false, false, false, false, false, false, false, false, false, false, false, false, false, false, false, false, false, false, false, false, false, false, false, false, false, false, false, false, false, false, false, false, false, false, false, false, false, false, false, false, false, false, false, false, false, false, false, false, false, false, false, false, false, false, false, false, false, false, false, false, false, false, false, false, false, false, false, false, false, false, false, false, false, false, false, false, false, false, false, false, false, false, false, false, false, false, false, false, false, false, false] l := rfl
attribute [go_sem] kt_law02_CoderBack_j4
theorem kt_law02_CoderBack_j7 (l : List AV) : keepT i_law02_CoderBack_j7 l = keepT [false, true, false, false, false, false, false, false, true, false, true, false, false, false, false, false, false, false, false, false, false, false, false, false, false, false, false, false, false, false, false, false, false, false, false, false, false, false, false, false, false, false, false, false, false, false, false, false, false, false, false, false, false, false, false, false, false, false, false, false, false, false, false, false, false, false, false, false, false, false, false, false, false, false, false, false, false, false, false, false, false, false, false, false, false, false, false, false, false, false, false, false, false, false, false, false, false, false, false, false, false] l := rfl
attribute [go_sem] kt_law02_CoderBack_j7
theorem kt_law02_CoderBack_k3 (l : List AV) : keepT i_law02_CoderBack_k3 l = keepT [false, true, false, false, false, false, false, false, true, false, true, false, false, false, false, false, false, false, false, false, false, false, false, false, false, false, false, false, false, false, false, false, false, false, false, false, false, false, false, false, false, false, false, false, false, false, false, false, false, false, false, false, false, false, false, false, false, false, false, false, false, false, false, false, false, false, false, false, false, false, false, false, false, false, false, false, false, false, false, false, false, false, false, false, false, false, false, false, false, false, false, false, false, false, false, false, false, false, false, false, false] l := rfl
attribute [go_sem] kt_law02_CoderBack_k3
theorem kt_law02_CoderBack_j6 (l : List AV) : keepT i_law02_CoderBack_j6 l = keepT [false, false, false, false, false, false, false, false, true, false, false, false, false, false, false, false, false, false, false, false, false, false, false, false, false, false, false, false, false, false, false, false, false, false, false, false, false, false, false, false, false, false, false, false, false, false, false, false, false, false, false, false, false, false, false, false, false, false, false, false, false, false, false, false, false, false, false, false, false, false, false, false, false, false, false, false, false, false, false, false, false, false, false, false, false, false, false, false, false, false, false, false, false, false, false, false, false, false, false, false, false] l := rfl
attribute [go_sem] kt_law02_CoderBack_j6
noncomputable def L_sha_Tail_0 (st : St) : Option (Ex × St) := lp tab G0 1 i_sha_Tail_k0 i_sha_Tail_b0 st
theorem L_sha_Tail_0_eq (st : St) : L_sha_Tail_0 st = againL L_sha_Tail_0 1 i_sha_Tail_k0 (app tab G0 1 [] (ex tab G0 1 i_sha_Tail_b0 st)) := lp_eq tab G0 1 i_sha_Tail_k0 i_sha_Tail_b0 st
theorem L_sha_Tail_0_in (K : List Fr) (st : St) : app tab G0 1 K (ex tab G0 1 (.loop i_sha_Tail_k0 i_sha_Tail_b0) st) = app tab G0 1 K (L_sha_Tail_0 (clean 1 i_sha_Tail_k0 st)) := rfl
attribute [go_sem] L_sha_Tail_0_in
noncomputable def L_sha_Tail_1 (st : St) : Option (Ex × St) := lp tab G0 1 i_sha_Tail_k1 i_sha_Tail_b1 st
theorem L_sha_Tail_1_eq (st : St) : L_sha_Tail_1 st = againL L_sha_Tail_1 1 i_sha_Tail_k1 (app tab G0 1 [] (ex tab G0 1 i_sha_Tail_b1 st)) := lp_eq tab G0 1 i_sha_Tail_k1 i_sha_Tail_b1 st
theorem L_sha_Tail_1_in (K : List Fr) (st : St) : app tab G0 1 K (ex tab G0 1 (.loop i_sha_Tail_k1 i_sha_Tail_b1) st) = app tab G0 1 K (L_sha_Tail_1 (clean 1 i_sha_Tail_k1 st)) := rfl
attribute [go_sem] L_sha_Tail_1_in
noncomputable def L_ref01_Tail_0 (st : St) : Option (Ex × St) := lp tab G0 2 i_ref01_Tail_k0 i_ref01_Tail_b0 st
theorem L_ref01_Tail_0_eq (st : St) : L_ref01_Tail_0 st = againL L_ref01_Tail_0 2 i_ref01_Tail_k0 (app tab G0 2 [] (ex tab G0 2 i_ref01_Tail_b0 st)) := lp_eq tab G0 2 i_ref01_Tail_k0 i_ref01_Tail_b0 st
theorem L_ref01_Tail_0_in (K : List Fr) (st : St) : app tab G0 2 K (ex tab G0 2 (.loop i_ref01_Tail_k0 i_ref01_Tail_b0) st) = app tab G0 2 K (L_ref01_Tail_0 (clean 2 i_ref01_Tail_k0 st)) := rfl
attribute [go_sem] L_ref01_Tail_0_in
noncomputable def L_ref01_Tail_1 (st : St) : Option (Ex × St) := lp tab G0 2 i_ref01_Tail_k1 i_ref01_Tail_b1 st
theorem L_ref01_Tail_1_eq (st : St) : L_ref01_Tail_1 st = againL L_ref01_Tail_1 2 i_ref01_Tail_k1 (app tab G0 2 [] (ex tab G0 2 i_ref01_Tail_b1 st)) := lp_eq tab G0 2 i_ref01_Tail_k1 i_ref01_Tail_b1 st
theorem L_ref01_Tail_1_in (K : List Fr) (st : St) : app tab G0 2 K (ex tab G0 2 (.loop i_ref01_Tail_k1 i_ref01_Tail_b1) st) = app tab G0 2 K (L_ref01_Tail_1 (clean 2 i_ref01_Tail_k1 st)) := rfl
attribute [go_sem] L_ref01_Tail_1_in
noncomputable def L_coder_Number_0 (st : St) : Option (Ex × St) := lp tab G0 1 i_coder_Number_k0 i_coder_Number_b0 st
theorem L_coder_Number_0_eq (st : St) : L_coder_Number_0 st = againL L_coder_Number_0 1 i_coder_Number_k0 (app tab G0 1 [] (ex tab G0 1 i_coder_Number_b0 st)) := lp_eq tab G0 1 i_coder_Number_k0 i_coder_Number_b0 st
theorem L_coder_Number_0_in (K : List Fr) (st : St) : app tab G0 1 K (ex tab G0 1 (.loop i_coder_Number_k0 i_coder_Number_b0) st) = app tab G0 1 K (L_coder_Number_0 (clean 1 i_coder_Number_k0 st)) := rfl
attribute [go_sem] L_coder_Number_0_in
noncomputable def L_coder_Number_1 (st : St) : Option (Ex × St) := lp tab G0 1 i_coder_Number_k1 i_coder_Number_b1 st
theorem L_coder_Number_1_eq (st : St) : L_coder_Number_1 st = againL L_coder_Number_1 1 i_coder_Number_k1 (app tab G0 1 [] (ex tab G0 1 i_coder_Number_b1 st)) := lp_eq tab G0 1 i_coder_Number_k1 i_coder_Number_b1 st
theorem L_coder_Number_1_in (K : List Fr) (st : St) : app tab G0 1 K (ex tab G0 1 (.loop i_coder_Number_k1 i_coder_Number_b1) st) = app tab G0 1 K (L_coder_Number_1 (clean 1 i_coder_Number_k1 st)) := rfl
attribute [go_sem] L_coder_Number_1_in
noncomputable def L_ref02_Number_0 (st : St) : Option (Ex × St) := lp tab G0 2 i_ref02_Number_k0 i_ref02_Number_b0 st
theorem L_ref02_Number_0_eq (st : St) : L_ref02_Number_0 st = againL L_ref02_Number_0 2 i_ref02_Number_k0 (app tab G0 2 [] (ex tab G0 2 i_ref02_Number_b0 st)) := lp_eq tab G0 2 i_ref02_Number_k0 i_ref02_Number_b0 st
theorem L_ref02_Number_0_in (K : List Fr) (st : St) : app tab G0 2 K (ex tab G0 2 (.loop i_ref02_Number_k0 i_ref02_Number_b0) st) = app tab G0 2 K (L_ref02_Number_0 (clean 2 i_ref02_Number_k0 st)) := rfl
attribute [go_sem] L_ref02_Number_0_in
noncomputable def L_law01_ShaWords_0 (st : St) : Option (Ex × St) := lp tab G0 1 i_law01_ShaWords_k0 i_law01_ShaWords_b0 st
theorem L_law01_ShaWords_0_eq (st : St) : L_law01_ShaWords_0 st = againL L_law01_ShaWords_0 1 i_law01_ShaWords_k0 (app tab G0 1 [] (ex tab G0 1 i_law01_ShaWords_b0 st)) := lp_eq tab G0 1 i_law01_ShaWords_k0 i_law01_ShaWords_b0 st
theorem L_law01_ShaWords_0_in (K : List Fr) (st : St) : app tab G0 1 K (ex tab G0 1 (.loop i_law01_ShaWords_k0 i_law01_ShaWords_b0) st) = app tab G0 1 K (L_law01_ShaWords_0 (clean 1 i_law01_ShaWords_k0 st)) := rfl
attribute [go_sem] L_law01_ShaWords_0_in
noncomputable def L_sha_Words_0 (st : St) : Option (Ex × St) := lp tab G0 1 i_sha_Words_k0 i_sha_Words_b0 st
theorem L_sha_Words_0_eq (st : St) : L_sha_Words_0 st = againL L_sha_Words_0 1 i_sha_Words_k0 (app tab G0 1 [] (ex tab G0 1 i_sha_Words_b0 st)) := lp_eq tab G0 1 i_sha_Words_k0 i_sha_Words_b0 st
theorem L_sha_Words_0_in (K : List Fr) (st : St) : app tab G0 1 K (ex tab G0 1 (.loop i_sha_Words_k0 i_sha_Words_b0) st) = app tab G0 1 K (L_sha_Words_0 (clean 1 i_sha_Words_k0 st)) := rfl
attribute [go_sem] L_sha_Words_0_in
noncomputable def L_sha_Words_1 (st : St) : Option (Ex × St) := lp tab G0 1 i_sha_Words_k1 i_sha_Words_b1 st
theorem L_sha_Words_1_eq (st : St) : L_sha_Words_1 st = againL L_sha_Words_1 1 i_sha_Words_k1 (app tab G0 1 [] (ex tab G0 1 i_sha_Words_b1 st)) := lp_eq tab G0 1 i_sha_Words_k1 i_sha_Words_b1 st
theorem L_sha_Words_1_in (K : List Fr) (st : St) : app tab G0 1 K (ex tab G0 1 (.loop i_sha_Words_k1 i_sha_Words_b1) st) = app tab G0 1 K (L_sha_Words_1 (clean 1 i_sha_Words_k1 st)) := rfl
attribute [go_sem] L_sha_Words_1_in
noncomputable def L_ref01_Words_1 (st : St) : Option (Ex × St) := lp tab G0 1 i_ref01_Words_k1 i_ref01_Words_b1 st
theorem L_ref01_Words_1_eq (st : St) : L_ref01_Words_1 st = againL L_ref01_Words_1 1 i_ref01_Words_k1 (app tab G0 1 [] (ex tab G0 1 i_ref01_Words_b1 st)) := lp_eq tab G0 1 i_ref01_Words_k1 i_ref01_Words_b1 st
theorem L_ref01_Words_1_in (K : List Fr) (st : St) : app tab G0 1 K (ex tab G0 1 (.loop i_ref01_Words_k1 i_ref01_Words_b1) st) = app tab G0 1 K (L_ref01_Words_1 (clean 1 i_ref01_Words_k1 st)) := rfl
attribute [go_sem] L_ref01_Words_1_in
noncomputable def L_ref01_Words_0 (st : St) : Option (Ex × St) := lp tab G0 1 i_ref01_Words_k0 i_ref01_Words_b0 st
theorem L_ref01_Words_0_eq (st : St) : L_ref01_Words_0 st = againL L_ref01_Words_0 1 i_ref01_Words_k0 (app tab G0 1 [] (ex tab G0 1 i_ref01_Words_b0 st)) := lp_eq tab G0 1 i_ref01_Words_k0 i_ref01_Words_b0 st
theorem L_ref01_Words_0_in (K : List Fr) (st : St) : app tab G0 1 K (ex tab G0 1 (.loop i_ref01_Words_k0 i_ref01_Words_b0) st) = app tab G0 1 K (L_ref01_Words_0 (clean 1 i_ref01_Words_k0 st)) := rfl
attribute [go_sem] L_ref01_Words_0_in
noncomputable def L_ref01_Words_2 (st : St) : Option (Ex × St) := lp tab G0 1 i_ref01_Words_k2 i_ref01_Words_b2 st
theorem L_ref01_Words_2_eq (st : St) : L_ref01_Words_2 st = againL L_ref01_Words_2 1 i_ref01_Words_k2 (app tab G0 1 [] (ex tab G0 1 i_ref01_Words_b2 st)) := lp_eq tab G0 1 i_ref01_Words_k2 i_ref01_Words_b2 st
theorem L_ref01_Words_2_in (K : List Fr) (st : St) : app tab G0 1 K (ex tab G0 1 (.loop i_ref01_Words_k2 i_ref01_Words_b2) st) = app tab G0 1 K (L_ref01_Words_2 (clean 1 i_ref01_Words_k2 st)) := rfl
attribute [go_sem] L_ref01_Words_2_in
noncomputable def L_coder_Reader_Number_0 (st : St) : Option (Ex × St) := lp tab G0 0 i_coder_Reader_Number_k0 i_coder_Reader_Number_b0 st
theorem L_coder_Reader_Number_0_eq (st : St) : L_coder_Reader_Number_0 st = againL L_coder_Reader_Number_0 0 i_coder_Reader_Number_k0 (app tab G0 0 [] (ex tab G0 0 i_coder_Reader_Number_b0 st)) := lp_eq tab G0 0 i_coder_Reader_Number_k0 i_coder_Reader_Number_b0 st
theorem L_coder_Reader_Number_0_in (K : List Fr) (st : St) : app tab G0 0 K (ex tab G0 0 (.loop i_coder_Reader_Number_k0 i_coder_Reader_Number_b0) st) = app tab G0 0 K (L_coder_Reader_Number_0 (clean 0 i_coder_Reader_Number_k0 st)) := rfl
attribute [go_sem] L_coder_Reader_Number_0_in
noncomputable def L_slices_Concat_sl_byte_byte_0 (st : St) : Option (Ex × St) := lp tab G0 2 i_slices_Concat_sl_byte_byte_k0 i_slices_Concat_sl_byte_byte_b0 st
theorem L_slices_Concat_sl_byte_byte_0_eq (st : St) : L_slices_Concat_sl_byte_byte_0 st = againL L_slices_Concat_sl_byte_byte_0 2 i_slices_Concat_sl_byte_byte_k0 (app tab G0 2 [] (ex tab G0 2 i_slices_Concat_sl_byte_byte_b0 st)) := lp_eq tab G0 2 i_slices_Concat_sl_byte_byte_k0 i_slices_Concat_sl_byte_byte_b0 st
theorem L_slices_Concat_sl_byte_byte_0_in (K : List Fr) (st : St) : app tab G0 2 K (ex tab G0 2 (.loop i_slices_Concat_sl_byte_byte_k0 i_slices_Concat_sl_byte_byte_b0) st) = app tab G0 2 K (L_slices_Concat_sl_byte_byte_0 (clean 2 i_slices_Concat_sl_byte_byte_k0 st)) := rfl
attribute [go_sem] L_slices_Concat_sl_byte_byte_0_in
noncomputable def L_slices_Concat_sl_byte_byte_1 (st : St) : Option (Ex × St) := lp tab G0 2 i_slices_Concat_sl_byte_byte_k1 i_slices_Concat_sl_byte_byte_b1 st
theorem L_slices_Concat_sl_byte_byte_1_eq (st : St) : L_slices_Concat_sl_byte_byte_1 st = againL L_slices_Concat_sl_byte_byte_1 2 i_slices_Concat_sl_byte_byte_k1 (app tab G0 2 [] (ex tab G0 2 i_slices_Concat_sl_byte_byte_b1 st)) := lp_eq tab G0 2 i_slices_Concat_sl_byte_byte_k1 i_slices_Concat_sl_byte_byte_b1 st
theorem L_slices_Concat_sl_byte_byte_1_in (K : List Fr) (st : St) : app tab G0 2 K (ex tab G0 2 (.loop i_slices_Concat_sl_byte_byte_k1 i_slices_Concat_sl_byte_byte_b1) st) = app tab G0 2 K (L_slices_Concat_sl_byte_byte_1 (clean 2 i_slices_Concat_sl_byte_byte_k1 st)) := rfl
attribute [go_sem] L_slices_Concat_sl_byte_byte_1_in
noncomputable def L_law03_DigestApart_0 (st : St) : Option (Ex × St) := lp tab G0 2 i_law03_DigestApart_k0 i_law03_DigestApart_b0 st
theorem L_law03_DigestApart_0_eq (st : St) : L_law03_DigestApart_0 st = againL L_law03_DigestApart_0 2 i_law03_DigestApart_k0 (app tab G0 2 [] (ex tab G0 2 i_law03_DigestApart_b0 st)) := lp_eq tab G0 2 i_law03_DigestApart_k0 i_law03_DigestApart_b0 st
theorem L_law03_DigestApart_0_in (K : List Fr) (st : St) : app tab G0 2 K (ex tab G0 2 (.loop i_law03_DigestApart_k0 i_law03_DigestApart_b0) st) = app tab G0 2 K (L_law03_DigestApart_0 (clean 2 i_law03_DigestApart_k0 st)) := rfl
attribute [go_sem] L_law03_DigestApart_0_in
noncomputable def L_law02_CoderReads_0 (st : St) : Option (Ex × St) := lp tab G0 3 i_law02_CoderReads_k0 i_law02_CoderReads_b0 st
theorem L_law02_CoderReads_0_eq (st : St) : L_law02_CoderReads_0 st = againL L_law02_CoderReads_0 3 i_law02_CoderReads_k0 (app tab G0 3 [] (ex tab G0 3 i_law02_CoderReads_b0 st)) := lp_eq tab G0 3 i_law02_CoderReads_k0 i_law02_CoderReads_b0 st
theorem L_law02_CoderReads_0_in (K : List Fr) (st : St) : app tab G0 3 K (ex tab G0 3 (.loop i_law02_CoderReads_k0 i_law02_CoderReads_b0) st) = app tab G0 3 K (L_law02_CoderReads_0 (clean 3 i_law02_CoderReads_k0 st)) := rfl
attribute [go_sem] L_law02_CoderReads_0_in
noncomputable def L_ref02_Reader_Number_0 (st : St) : Option (Ex × St) := lp tab G0 0 i_ref02_Reader_Number_k0 i_ref02_Reader_Number_b0 st
theorem L_ref02_Reader_Number_0_eq (st : St) : L_ref02_Reader_Number_0 st = againL L_ref02_Reader_Number_0 0 i_ref02_Reader_Number_k0 (app tab G0 0 [] (ex tab G0 0 i_ref02_Reader_Number_b0 st)) := lp_eq tab G0 0 i_ref02_Reader_Number_k0 i_ref02_Reader_Number_b0 st
theorem L_ref02_Reader_Number_0_in (K : List Fr) (st : St) : app tab G0 0 K (ex tab G0 0 (.loop i_ref02_Reader_Number_k0 i_ref02_Reader_Number_b0) st) = app tab G0 0 K (L_ref02_Reader_Number_0 (clean 0 i_ref02_Reader_Number_k0 st)) := rfl
attribute [go_sem] L_ref02_Reader_Number_0_in
noncomputable def L_law00_Code_0 (st : St) : Option (Ex × St) := lp tab G0 0 i_law00_Code_k0 i_law00_Code_b0 st
theorem L_law00_Code_0_eq (st : St) : L_law00_Code_0 st = againL L_law00_Code_0 0 i_law00_Code_k0 (app tab G0 0 [] (ex tab G0 0 i_law00_Code_b0 st)) := lp_eq tab G0 0 i_law00_Code_k0 i_law00_Code_b0 st
theorem L_law00_Code_0_in (K : List Fr) (st : St) : app tab G0 0 K (ex tab G0 0 (.loop i_law00_Code_k0 i_law00_Code_b0) st) = app tab G0 0 K (L_law00_Code_0 (clean 0 i_law00_Code_k0 st)) := rfl
attribute [go_sem] L_law00_Code_0_in
noncomputable def L_law02_CoderBack_0 (st : St) : Option (Ex × St) := lp tab G0 4 i_law02_CoderBack_k0 i_law02_CoderBack_b0 st
theorem L_law02_CoderBack_0_eq (st : St) : L_law02_CoderBack_0 st = againL L_law02_CoderBack_0 4 i_law02_CoderBack_k0 (app tab G0 4 [] (ex tab G0 4 i_law02_CoderBack_b0 st)) := lp_eq tab G0 4 i_law02_CoderBack_k0 i_law02_CoderBack_b0 st
theorem L_law02_CoderBack_0_in (K : List Fr) (st : St) : app tab G0 4 K (ex tab G0 4 (.loop i_law02_CoderBack_k0 i_law02_CoderBack_b0) st) = app tab G0 4 K (L_law02_CoderBack_0 (clean 4 i_law02_CoderBack_k0 st)) := rfl
attribute [go_sem] L_law02_CoderBack_0_in
noncomputable def L_law02_CoderBack_1 (st : St) : Option (Ex × St) := lp tab G0 4 i_law02_CoderBack_k1 i_law02_CoderBack_b1 st
theorem L_law02_CoderBack_1_eq (st : St) : L_law02_CoderBack_1 st = againL L_law02_CoderBack_1 4 i_law02_CoderBack_k1 (app tab G0 4 [] (ex tab G0 4 i_law02_CoderBack_b1 st)) := lp_eq tab G0 4 i_law02_CoderBack_k1 i_law02_CoderBack_b1 st
theorem L_law02_CoderBack_1_in (K : List Fr) (st : St) : app tab G0 4 K (ex tab G0 4 (.loop i_law02_CoderBack_k1 i_law02_CoderBack_b1) st) = app tab G0 4 K (L_law02_CoderBack_1 (clean 4 i_law02_CoderBack_k1 st)) := rfl
attribute [go_sem] L_law02_CoderBack_1_in
noncomputable def L_law02_CoderBack_2 (st : St) : Option (Ex × St) := lp tab G0 4 i_law02_CoderBack_k2 i_law02_CoderBack_b2 st
theorem L_law02_CoderBack_2_eq (st : St) : L_law02_CoderBack_2 st = againL L_law02_CoderBack_2 4 i_law02_CoderBack_k2 (app tab G0 4 [] (ex tab G0 4 i_law02_CoderBack_b2 st)) := lp_eq tab G0 4 i_law02_CoderBack_k2 i_law02_CoderBack_b2 st
theorem L_law02_CoderBack_2_in (K : List Fr) (st : St) : app tab G0 4 K (ex tab G0 4 (.loop i_law02_CoderBack_k2 i_law02_CoderBack_b2) st) = app tab G0 4 K (L_law02_CoderBack_2 (clean 4 i_law02_CoderBack_k2 st)) := rfl
attribute [go_sem] L_law02_CoderBack_2_in
noncomputable def L_law02_CoderBack_3 (st : St) : Option (Ex × St) := lp tab G0 4 i_law02_CoderBack_k3 i_law02_CoderBack_b3 st
theorem L_law02_CoderBack_3_eq (st : St) : L_law02_CoderBack_3 st = againL L_law02_CoderBack_3 4 i_law02_CoderBack_k3 (app tab G0 4 [] (ex tab G0 4 i_law02_CoderBack_b3 st)) := lp_eq tab G0 4 i_law02_CoderBack_k3 i_law02_CoderBack_b3 st
theorem L_law02_CoderBack_3_in (K : List Fr) (st : St) : app tab G0 4 K (ex tab G0 4 (.loop i_law02_CoderBack_k3 i_law02_CoderBack_b3) st) = app tab G0 4 K (L_law02_CoderBack_3 (clean 4 i_law02_CoderBack_k3 st)) := rfl
attribute [go_sem] L_law02_CoderBack_3_in
end Go.Proofs.Ytfbipgidlecmkaa
