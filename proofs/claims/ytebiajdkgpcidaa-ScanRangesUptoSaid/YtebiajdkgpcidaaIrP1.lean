/- More of the IR of the seat's functions. -/
import Derived.Test.YtebiajdkgpcidaaIrP0
set_option linter.unusedVariables false
namespace Go.Proofs.Ytebiajdkgpcidaa
open Go.Ev

def i_law05_AvlGets_r : List Bool := [false, false, false, false, true, false, false, false, false, false, false, false, false, false, false, false, false, false, false, false, false, false, false, false, false, false, false, false, false, false, false, false, false, false, false, false, false, false, false, false, false, false, false, false, false, false, false, false, false, false, false, false, false, false, false, false, false, false, false, false, false, false, false, false, false, false, false, false, false, false, false, false, false, false, false]
/-- heartwood/heartwoodlaw05.AvlGets -/
def i_law05_AvlGets : Ev.Fn := ⟨2, 75, 1,
  (.seq
   (.reg [] [
     ⟨(some 2), .box 0 5 (.t 0), none, []⟩,
     ⟨(some 4), .mv (.k (.bool false)), none, []⟩])
   (.seq
    (.reg [] [
      ⟨(some 13), .qcall n_law05_up [] [], none, []⟩,
      ⟨(some 5), .mv (.t 13), none, []⟩])
    (.seq
     (.reg [] [
       ⟨(some 14), .load true 5 (.t 2), none, []⟩,
       ⟨(some 15), .qcall n_law05_small [(.t 14)] [], none, []⟩,
       ⟨(some 6), .mv (.t 15), none, []⟩])
     (.seq
      (.seq
       (.reg [] [
         ⟨(some 16), .mv (.t 6), none, []⟩,
         ⟨(some 17), .un .not (.t 16), none, []⟩,
         ⟨(some 18), .mv (.t 17), none, []⟩,
         ⟨(some 19), .cn (.t 1), (some (18, false)), []⟩,
         ⟨(some 20), .len false (.t 19), (some (18, false)), []⟩,
         ⟨(some 21), .bin .plain .gtr (.t 20) (.k (.int .i64 5000)), (some (18, false)), []⟩,
         ⟨(some 22), .pick (.t 18) (.k (.bool true)) (.t 21), none, []⟩])
       (.cond (.t 22)
        (.seq
         (.reg [] [
           ⟨(some 23), .mv (.t 5), none, []⟩,
           ⟨(some 4), .mv (.t 23), none, []⟩])
         (.ret i_law05_AvlGets_r))
        .skip))
      (.seq
       (.reg [] [
         ⟨(some 25), .load true 5 (.t 2), none, []⟩,
         ⟨(some 26), .cn (.t 1), none, []⟩,
         ⟨(some 27), .qcall n_avl_Get [(.t 25), (.t 26)] [], none, []⟩,
         ⟨(some 24), .mv (.t 27), none, []⟩,
         ⟨(some 28), .ext 0 (.t 24), none, []⟩,
         ⟨(some 29), .ext 1 (.t 24), none, []⟩,
         ⟨(some 30), .ext 2 (.t 24), none, []⟩,
         ⟨(some 7), .cn (.t 28), none, []⟩,
         ⟨(some 8), .mv (.t 29), none, []⟩,
         ⟨(some 9), .mv (.t 30), none, []⟩])
       (.seq
        (.reg [] [
          ⟨(some 31), .load true 5 (.t 2), none, []⟩,
          ⟨(some 32), .cn (.t 1), none, []⟩,
          ⟨(some 33), .qcall n_law05_asked [(.t 31), (.t 32), (.k (.slice none 0 0))] [], none, []⟩,
          ⟨(some 10), .mv (.t 33), none, []⟩])
        (.seq
         (.seq
          (.reg [] [
            ⟨(some 34), .mv (.t 10), none, []⟩,
            ⟨(some 35), .bin .plain .neq (.t 34) (.k (.int .i64 0)), none, []⟩])
          (.cond (.t 35)
           (.seq
            (.reg [] [
              ⟨(some 36), .mv (.t 5), none, []⟩,
              ⟨(some 37), .mv (.t 36), none, []⟩,
              ⟨(some 38), .mv (.t 9), (some (37, true)), []⟩,
              ⟨(some 39), .qcall n_law00_Code [(.t 38)] [], (some (37, true)), []⟩,
              ⟨(some 40), .mv (.t 10), (some (37, true)), []⟩,
              ⟨(some 41), .bin .plain .eql (.t 39) (.t 40), (some (37, true)), []⟩,
              ⟨(some 42), .pick (.t 37) (.t 41) (.k (.bool false)), none, []⟩,
              ⟨(some 43), .mv (.t 42), none, []⟩,
              ⟨(some 44), .mv (.t 8), (some (43, true)), []⟩,
              ⟨(some 45), .un .not (.t 44), (some (43, true)), []⟩,
              ⟨(some 46), .pick (.t 43) (.t 45) (.k (.bool false)), none, []⟩,
              ⟨(some 47), .mv (.t 46), none, []⟩,
              ⟨(some 48), .cn (.t 7), (some (47, true)), []⟩,
              ⟨(some 49), .len false (.t 48), (some (47, true)), []⟩,
              ⟨(some 50), .bin .plain .eql (.t 49) (.k (.int .i64 0)), (some (47, true)), []⟩,
              ⟨(some 51), .pick (.t 47) (.t 50) (.k (.bool false)), none, []⟩,
              ⟨(some 4), .mv (.t 51), none, []⟩])
            (.ret i_law05_AvlGets_r))
           .skip))
         (.seq
          (.reg [] [
            ⟨(some 53), .load true 5 (.t 2), none, []⟩,
            ⟨(some 54), .cn (.t 1), none, []⟩,
            ⟨(some 55), .qcall n_ref05_Get [(.t 53), (.t 54)] [], none, []⟩,
            ⟨(some 52), .mv (.t 55), none, []⟩,
            ⟨(some 56), .ext 0 (.t 52), none, []⟩,
            ⟨(some 57), .ext 1 (.t 52), none, []⟩,
            ⟨(some 11), .cn (.t 56), none, []⟩,
            ⟨(some 12), .mv (.t 57), none, []⟩])
          (.seq
           (.reg [] [
             ⟨(some 58), .mv (.t 5), none, []⟩,
             ⟨(some 59), .mv (.t 58), none, []⟩,
             ⟨(some 60), .mv (.t 9), (some (59, true)), []⟩,
             ⟨(some 61), .bin (.iface ty_api_Code true) .eql (.t 60) (.k .nilIface), (some (59, true)), []⟩,
             ⟨(some 62), .pick (.t 59) (.t 61) (.k (.bool false)), none, []⟩,
             ⟨(some 63), .mv (.t 62), none, []⟩,
             ⟨(some 64), .mv (.t 8), (some (63, true)), []⟩,
             ⟨(some 65), .mv (.t 12), (some (63, true)), []⟩,
             ⟨(some 66), .bin .bool .eql (.t 64) (.t 65), (some (63, true)), []⟩,
             ⟨(some 67), .pick (.t 63) (.t 66) (.k (.bool false)), none, []⟩,
             ⟨(some 68), .mv (.t 67), none, []⟩,
             ⟨(some 69), .cn (.t 7), (some (68, true)), []⟩,
             ⟨(some 70), .b2s (.t 69), (some (68, true)), []⟩,
             ⟨(some 71), .cn (.t 11), (some (68, true)), []⟩,
             ⟨(some 72), .b2s (.t 71), (some (68, true)), []⟩,
             ⟨(some 73), .bin .plain .eql (.t 70) (.t 72), (some (68, true)), []⟩,
             ⟨(some 74), .pick (.t 68) (.t 73) (.k (.bool false)), none, []⟩,
             ⟨(some 4), .mv (.t 74), none, []⟩])
           (.ret i_law05_AvlGets_r)))))))))),
  [.tmp 4], [], false, []⟩

def i_law05_asked_r : List Bool := [false, false, false, false, false, false, true, false, false, false, false, false, false, false, false, false, false, false, false, false]
/-- heartwood/heartwoodlaw05.asked -/
def i_law05_asked : Ev.Fn := ⟨3, 20, 1,
  (.seq
   (.reg [] [
     ⟨(some 3), .box 0 5 (.t 0), none, []⟩,
     ⟨(some 6), .mv (.k (.int .i64 0)), none, []⟩])
   (.seq
    (.reg [] [
      ⟨(some 8), .load true 5 (.t 3), none, []⟩,
      ⟨(some 9), .qcall n_ref05_Is [(.t 8)] [], none, []⟩,
      ⟨(some 7), .mv (.t 9), none, []⟩])
    (.seq
     (.seq
      (.reg [] [
        ⟨(some 10), .mv (.t 7), none, []⟩,
        ⟨(some 11), .un .not (.t 10), none, []⟩])
      (.cond (.t 11)
       (.seq
        (.reg [] [
          ⟨(some 6), .mv (.k (.int .i64 3)), none, []⟩])
        (.ret i_law05_asked_r))
       .skip))
     (.seq
      (.seq
       (.reg [] [
         ⟨(some 12), .cn (.t 1), none, []⟩,
         ⟨(some 13), .len false (.t 12), none, []⟩,
         ⟨(some 14), .bin .plain .gtr (.t 13) (.k (.int .i64 80)), none, []⟩,
         ⟨(some 15), .mv (.t 14), none, []⟩,
         ⟨(some 16), .cn (.t 2), (some (15, false)), []⟩,
         ⟨(some 17), .len false (.t 16), (some (15, false)), []⟩,
         ⟨(some 18), .bin .plain .gtr (.t 17) (.k (.int .i64 1024)), (some (15, false)), []⟩,
         ⟨(some 19), .pick (.t 15) (.k (.bool true)) (.t 18), none, []⟩])
       (.cond (.t 19)
        (.seq
         (.reg [] [
           ⟨(some 6), .mv (.k (.int .i64 1)), none, []⟩])
         (.ret i_law05_asked_r))
        .skip))
      (.seq
       (.reg [] [
         ⟨(some 6), .mv (.k (.int .i64 0)), none, []⟩])
       (.ret i_law05_asked_r)))))),
  [.tmp 6], [], false, []⟩

def i_law00_Code_r : List Bool := [false, false, true, false, false, false, false, false, false, false, false, false, false, false, false]
def i_law00_Code_j1 : List Bool := [true, false, false, true, false, false, false, false, false, false, false, false, false, false, false]
def i_law00_Code_k0 : List Bool := [true, false, false, true, false, false, false, false, false, false, false, false, false, false, false]
def i_law00_Code_j0 : List Bool := [false, false, false, false, false, false, false, false, false, false, false, false, false, false, false]
abbrev s_law00_Code_R (t2 : AV) (h : Heap) : St := ⟨[.undef, .undef, t2, .undef, .undef, .undef, .undef, .undef, .undef, .undef, .undef, .undef, .undef, .undef, .undef], h⟩
abbrev s_law00_Code_K0 (t0 t3 : AV) (h : Heap) : St := ⟨[t0, .undef, .undef, t3, .undef, .undef, .undef, .undef, .undef, .undef, .undef, .undef, .undef, .undef, .undef], h⟩
def i_law00_Code_b0 : IR :=
  (.seq
   (.seq
    (.reg [] [
      ⟨(some 6), .mv (.t 3), none, []⟩,
      ⟨(some 7), .bin .plain .leq (.t 6) (.k (.int .i64 13)), none, []⟩])
    (.cond (.t 7)
     .skip
     (.exit 0 i_law00_Code_j0)))
   (.seq
    (.block 1 i_law00_Code_j1
     (.seq
      (.reg [] [
        ⟨(some 10), .mv (.t 0), none, []⟩,
        ⟨(some 11), .mv (.t 3), none, []⟩,
        ⟨(some 12), .mki ty_api_Code (.t 11), none, []⟩,
        ⟨(some 13), .bin (.iface ty_api_Code false) .eql (.t 10) (.t 12), none, []⟩])
      (.cond (.t 13)
       (.seq
        (.reg [] [
          ⟨(some 14), .mv (.t 3), none, []⟩,
          ⟨(some 2), .mv (.t 14), none, []⟩])
        (.ret i_law00_Code_r))
       .skip)))
    (.reg [] [
      ⟨(some 8), .mv (.t 3), none, []⟩,
      ⟨(some 9), .bin .plain .add (.t 8) (.k (.int .i64 1)), none, []⟩,
      ⟨(some 3), .mv (.t 9), none, []⟩])))

abbrev s_law00_Code_J0 (h : Heap) : St := ⟨[.undef, .undef, .undef, .undef, .undef, .undef, .undef, .undef, .undef, .undef, .undef, .undef, .undef, .undef, .undef], h⟩
/-- heartwood/heartwoodlaw00.Code -/
def i_law00_Code : Ev.Fn := ⟨1, 15, 0,
  (.seq
   (.reg [] [
     ⟨(some 2), .mv (.k (.int .i64 0)), none, []⟩])
   (.seq
    (.seq
     (.reg [] [
       ⟨(some 4), .mv (.t 0), none, []⟩,
       ⟨(some 5), .bin (.iface ty_api_Code true) .eql (.t 4) (.k .nilIface), none, []⟩])
     (.cond (.t 5)
      (.seq
       (.reg [] [
         ⟨(some 2), .mv (.k (.int .i64 0)), none, []⟩])
       (.ret i_law00_Code_r))
      .skip))
    (.seq
     (.seq
      (.reg [] [
        ⟨(some 3), .mv (.k (.int .i64 1)), none, []⟩])
      (.block 0 i_law00_Code_j0
       (.loop i_law00_Code_k0 i_law00_Code_b0)))
     (.seq
      (.reg [] [
        ⟨(some 2), .mv (.k (.int .i64 (-1))), none, []⟩])
      (.ret i_law00_Code_r))))),
  [.tmp 2], [], false, []⟩

def i_ref05_Get_r : List Bool := [false, false, false, false, true, true, false, false, false, false, false, false, false, false, false, false, false, false, false, false, false, false, false, false, false, false, false, false, false, false]
def i_ref05_Get_j1 : List Bool := [false, true, false, false, false, false, true, true, false, false, false, false, false, false, false, false, false, false, false, false, false, false, false, false, false, false, false, false, false, false]
def i_ref05_Get_k0 : List Bool := [false, true, false, false, false, false, true, true, false, false, false, false, false, false, false, false, false, false, false, false, false, false, false, false, false, false, false, false, false, false]
def i_ref05_Get_j0 : List Bool := [false, false, false, false, false, false, false, false, false, false, false, false, false, false, false, false, false, false, false, false, false, false, false, false, false, false, false, false, false, false]
abbrev s_ref05_Get_R (t4 t5 : AV) (h : Heap) : St := ⟨[.undef, .undef, .undef, .undef, t4, t5, .undef, .undef, .undef, .undef, .undef, .undef, .undef, .undef, .undef, .undef, .undef, .undef, .undef, .undef, .undef, .undef, .undef, .undef, .undef, .undef, .undef, .undef, .undef, .undef], h⟩
abbrev s_ref05_Get_K0 (t1 t6 t7 : AV) (h : Heap) : St := ⟨[.undef, t1, .undef, .undef, .undef, .undef, t6, t7, .undef, .undef, .undef, .undef, .undef, .undef, .undef, .undef, .undef, .undef, .undef, .undef, .undef, .undef, .undef, .undef, .undef, .undef, .undef, .undef, .undef, .undef], h⟩
def i_ref05_Get_b0 : IR :=
  (.seq
   (.seq
    (.reg [] [
      ⟨(some 10), .mv (.t 7), none, []⟩,
      ⟨(some 11), .cn (.t 6), none, []⟩,
      ⟨(some 12), .len false (.t 11), none, []⟩,
      ⟨(some 13), .bin .plain .lss (.t 10) (.t 12), none, []⟩])
    (.cond (.t 13)
     .skip
     (.exit 0 i_ref05_Get_j0)))
   (.seq
    (.block 1 i_ref05_Get_j1
     (.seq
      (.reg [] [
        ⟨(some 16), .cn (.t 6), none, []⟩,
        ⟨(some 17), .mv (.t 7), none, []⟩,
        ⟨(some 18), .ia 5 (.t 16) (.t 17), none, []⟩,
        ⟨(some 19), .fa 1 (.t 18), none, []⟩,
        ⟨(some 20), .load false 1 (.t 19), none, []⟩,
        ⟨(some 21), .b2s (.t 20), none, []⟩,
        ⟨(some 22), .cn (.t 1), none, []⟩,
        ⟨(some 23), .b2s (.t 22), none, []⟩,
        ⟨(some 24), .bin .plain .eql (.t 21) (.t 23), none, []⟩])
      (.cond (.t 24)
       (.seq
        (.reg [] [
          ⟨(some 25), .cn (.t 6), none, []⟩,
          ⟨(some 26), .mv (.t 7), none, []⟩,
          ⟨(some 27), .ia 5 (.t 25) (.t 26), none, []⟩,
          ⟨(some 28), .fa 2 (.t 27), none, []⟩,
          ⟨(some 29), .load false 1 (.t 28), none, []⟩,
          ⟨(some 4), .cn (.t 29), none, []⟩,
          ⟨(some 5), .mv (.k (.bool true)), none, []⟩])
        (.ret i_ref05_Get_r))
       .skip)))
    (.reg [] [
      ⟨(some 14), .mv (.t 7), none, []⟩,
      ⟨(some 15), .bin .plain .add (.t 14) (.k (.int .i64 1)), none, []⟩,
      ⟨(some 7), .mv (.t 15), none, []⟩])))

abbrev s_ref05_Get_J0 (h : Heap) : St := ⟨[.undef, .undef, .undef, .undef, .undef, .undef, .undef, .undef, .undef, .undef, .undef, .undef, .undef, .undef, .undef, .undef, .undef, .undef, .undef, .undef, .undef, .undef, .undef, .undef, .undef, .undef, .undef, .undef, .undef, .undef], h⟩
/-- heartwood/heartwoodref05.Get -/
def i_ref05_Get : Ev.Fn := ⟨2, 30, 1,
  (.seq
   (.reg [] [
     ⟨(some 2), .box 0 5 (.t 0), none, []⟩,
     ⟨(some 4), .cn (.k (.slice none 0 0)), none, []⟩,
     ⟨(some 5), .mv (.k (.bool false)), none, []⟩])
   (.seq
    (.reg [] [
      ⟨(some 8), .load true 5 (.t 2), none, []⟩,
      ⟨(some 9), .qcall n_ref04_List [(.t 8)] [], none, []⟩,
      ⟨(some 6), .cn (.t 9), none, []⟩])
    (.seq
     (.seq
      (.reg [] [
        ⟨(some 7), .mv (.k (.int .i64 0)), none, []⟩])
      (.block 0 i_ref05_Get_j0
       (.loop i_ref05_Get_k0 i_ref05_Get_b0)))
     (.seq
      (.reg [] [
        ⟨(some 4), .cn (.k (.slice none 0 0)), none, []⟩,
        ⟨(some 5), .mv (.k (.bool false)), none, []⟩])
      (.ret i_ref05_Get_r))))),
  [.tmp 4, .tmp 5], [], false, []⟩

def i_law05_AvlPuts_r : List Bool := [false, false, false, false, false, false, true, false, false, false, false, false, false, false, false, false, false, false, false, false, false, false, false, false, false, false, false, false, false, false, false, false, false, false, false, false, false, false, false, false, false, false, false, false, false, false, false, false, false, false, false, false, false, false, false, false, false, false, false, false, false, false, false, false, false, false]
/-- heartwood/heartwoodlaw05.AvlPuts -/
def i_law05_AvlPuts : Ev.Fn := ⟨3, 66, 2,
  (.seq
   (.reg [] [
     ⟨(some 3), .box 0 5 (.t 0), none, []⟩,
     ⟨(some 6), .mv (.k (.bool false)), none, []⟩])
   (.seq
    (.reg [] [
      ⟨(some 12), .qcall n_law05_up [] [], none, []⟩,
      ⟨(some 7), .mv (.t 12), none, []⟩])
    (.seq
     (.reg [] [
       ⟨(some 13), .load true 5 (.t 3), none, []⟩,
       ⟨(some 14), .qcall n_law05_small [(.t 13)] [], none, []⟩,
       ⟨(some 8), .mv (.t 14), none, []⟩])
     (.seq
      (.seq
       (.reg [] [
         ⟨(some 15), .mv (.t 8), none, []⟩,
         ⟨(some 16), .un .not (.t 15), none, []⟩,
         ⟨(some 17), .mv (.t 16), none, []⟩,
         ⟨(some 18), .cn (.t 1), (some (17, false)), []⟩,
         ⟨(some 19), .len false (.t 18), (some (17, false)), []⟩,
         ⟨(some 20), .bin .plain .gtr (.t 19) (.k (.int .i64 5000)), (some (17, false)), []⟩,
         ⟨(some 21), .pick (.t 17) (.k (.bool true)) (.t 20), none, []⟩,
         ⟨(some 22), .mv (.t 21), none, []⟩,
         ⟨(some 23), .cn (.t 2), (some (22, false)), []⟩,
         ⟨(some 24), .len false (.t 23), (some (22, false)), []⟩,
         ⟨(some 25), .bin .plain .gtr (.t 24) (.k (.int .i64 5000)), (some (22, false)), []⟩,
         ⟨(some 26), .pick (.t 22) (.k (.bool true)) (.t 25), none, []⟩])
       (.cond (.t 26)
        (.seq
         (.reg [] [
           ⟨(some 27), .mv (.t 7), none, []⟩,
           ⟨(some 6), .mv (.t 27), none, []⟩])
         (.ret i_law05_AvlPuts_r))
        .skip))
      (.seq
       (.reg [] [
         ⟨(some 29), .load true 5 (.t 3), none, []⟩,
         ⟨(some 30), .cn (.t 1), none, []⟩,
         ⟨(some 31), .cn (.t 2), none, []⟩,
         ⟨(some 32), .qcall n_avl_Put [(.t 29), (.t 30), (.t 31)] [], none, []⟩,
         ⟨(some 28), .mv (.t 32), none, []⟩,
         ⟨(some 33), .ext 0 (.t 28), none, []⟩,
         ⟨(some 34), .ext 1 (.t 28), none, []⟩,
         ⟨(some 9), .new 1 [(.int .i64 0), (.slice none 0 0), (.slice none 0 0), (.slice none 0 0), (.slice none 0 0)], none, []⟩,
         ⟨none, .store 5 (.t 9) (.t 33), none, []⟩,
         ⟨(some 10), .mv (.t 34), none, []⟩])
       (.seq
        (.reg [] [
          ⟨(some 35), .load true 5 (.t 3), none, []⟩,
          ⟨(some 36), .cn (.t 1), none, []⟩,
          ⟨(some 37), .cn (.t 2), none, []⟩,
          ⟨(some 38), .qcall n_law05_asked [(.t 35), (.t 36), (.t 37)] [], none, []⟩,
          ⟨(some 11), .mv (.t 38), none, []⟩])
        (.seq
         (.seq
          (.reg [] [
            ⟨(some 39), .mv (.t 11), none, []⟩,
            ⟨(some 40), .bin .plain .neq (.t 39) (.k (.int .i64 0)), none, []⟩])
          (.cond (.t 40)
           (.seq
            (.reg [] [
              ⟨(some 41), .mv (.t 7), none, []⟩,
              ⟨(some 42), .mv (.t 41), none, []⟩,
              ⟨(some 43), .mv (.t 10), (some (42, true)), []⟩,
              ⟨(some 44), .qcall n_law00_Code [(.t 43)] [], (some (42, true)), []⟩,
              ⟨(some 45), .mv (.t 11), (some (42, true)), []⟩,
              ⟨(some 46), .bin .plain .eql (.t 44) (.t 45), (some (42, true)), []⟩,
              ⟨(some 47), .pick (.t 42) (.t 46) (.k (.bool false)), none, []⟩,
              ⟨(some 48), .mv (.t 47), none, []⟩,
              ⟨(some 49), .load true 5 (.t 9), (some (48, true)), []⟩,
              ⟨(some 50), .build [(.int .i64 0), (.slice none 0 0), (.slice none 0 0), (.slice none 0 0), (.slice none 0 0)] [], (some (48, true)), []⟩,
              ⟨(some 51), .qcall n_ref04_Same [(.t 49), (.t 50)] [], (some (48, true)), []⟩,
              ⟨(some 52), .pick (.t 48) (.t 51) (.k (.bool false)), none, []⟩,
              ⟨(some 6), .mv (.t 52), none, []⟩])
            (.ret i_law05_AvlPuts_r))
           .skip))
         (.seq
          (.reg [] [
            ⟨(some 53), .mv (.t 7), none, []⟩,
            ⟨(some 54), .mv (.t 53), none, []⟩,
            ⟨(some 55), .mv (.t 10), (some (54, true)), []⟩,
            ⟨(some 56), .bin (.iface ty_api_Code true) .eql (.t 55) (.k .nilIface), (some (54, true)), []⟩,
            ⟨(some 57), .pick (.t 54) (.t 56) (.k (.bool false)), none, []⟩,
            ⟨(some 58), .mv (.t 57), none, []⟩,
            ⟨(some 59), .load true 5 (.t 9), (some (58, true)), []⟩,
            ⟨(some 60), .load true 5 (.t 3), (some (58, true)), []⟩,
            ⟨(some 61), .cn (.t 1), (some (58, true)), []⟩,
            ⟨(some 62), .cn (.t 2), (some (58, true)), []⟩,
            ⟨(some 63), .qcall n_ref05_Put [(.t 60), (.t 61), (.t 62)] [], (some (58, true)), []⟩,
            ⟨(some 64), .qcall n_ref04_Same [(.t 59), (.t 63)] [], (some (58, true)), []⟩,
            ⟨(some 65), .pick (.t 58) (.t 64) (.k (.bool false)), none, []⟩,
            ⟨(some 6), .mv (.t 65), none, []⟩])
          (.ret i_law05_AvlPuts_r))))))))),
  [.tmp 6], [], false, []⟩

def i_ref04_Same_r : List Bool := [false, false, false, false, true, false, false, false, false, false, false, false, false, false, false, false, false, false, false, false, false, false, false, false, false, false, false, false, false, false, false, false, false, false, false, false, false, false, false, false, false, false, false, false, false, false, false, false, false, false, false, false, false, false, false, false, false, false, false, false, false, false, false, false, false, false, false, false]
def i_ref04_Same_j1 : List Bool := [false, false, true, true, false, true, false, false, false, false, false, false, false, false, false, false, false, false, false, false, false, false, false, false, false, false, false, false, false, false, false, false, false, false, false, false, false, false, false, false, false, false, false, false, false, false, false, false, false, false, false, false, false, false, false, false, false, false, false, false, false, false, false, false, false, false, false, false]
def i_ref04_Same_k0 : List Bool := [false, false, true, true, false, true, false, false, false, false, false, false, false, false, false, false, false, false, false, false, false, false, false, false, false, false, false, false, false, false, false, false, false, false, false, false, false, false, false, false, false, false, false, false, false, false, false, false, false, false, false, false, false, false, false, false, false, false, false, false, false, false, false, false, false, false, false, false]
def i_ref04_Same_j0 : List Bool := [false, false, false, false, false, false, false, false, false, false, false, false, false, false, false, false, false, false, false, false, false, false, false, false, false, false, false, false, false, false, false, false, false, false, false, false, false, false, false, false, false, false, false, false, false, false, false, false, false, false, false, false, false, false, false, false, false, false, false, false, false, false, false, false, false, false, false, false]
abbrev s_ref04_Same_R (t4 : AV) (h : Heap) : St := ⟨[.undef, .undef, .undef, .undef, t4, .undef, .undef, .undef, .undef, .undef, .undef, .undef, .undef, .undef, .undef, .undef, .undef, .undef, .undef, .undef, .undef, .undef, .undef, .undef, .undef, .undef, .undef, .undef, .undef, .undef, .undef, .undef, .undef, .undef, .undef, .undef, .undef, .undef, .undef, .undef, .undef, .undef, .undef, .undef, .undef, .undef, .undef, .undef, .undef, .undef, .undef, .undef, .undef, .undef, .undef, .undef, .undef, .undef, .undef, .undef, .undef, .undef, .undef, .undef, .undef, .undef, .undef, .undef], h⟩
abbrev s_ref04_Same_K0 (t2 t3 t5 : AV) (h : Heap) : St := ⟨[.undef, .undef, t2, t3, .undef, t5, .undef, .undef, .undef, .undef, .undef, .undef, .undef, .undef, .undef, .undef, .undef, .undef, .undef, .undef, .undef, .undef, .undef, .undef, .undef, .undef, .undef, .undef, .undef, .undef, .undef, .undef, .undef, .undef, .undef, .undef, .undef, .undef, .undef, .undef, .undef, .undef, .undef, .undef, .undef, .undef, .undef, .undef, .undef, .undef, .undef, .undef, .undef, .undef, .undef, .undef, .undef, .undef, .undef, .undef, .undef, .undef, .undef, .undef, .undef, .undef, .undef, .undef], h⟩
def i_ref04_Same_b0 : IR :=
  (.seq
   (.seq
    (.reg [] [
      ⟨(some 48), .mv (.t 5), none, []⟩,
      ⟨(some 49), .fa 4 (.t 2), none, []⟩,
      ⟨(some 50), .load false 1 (.t 49), none, []⟩,
      ⟨(some 51), .len false (.t 50), none, []⟩,
      ⟨(some 52), .bin .plain .lss (.t 48) (.t 51), none, []⟩])
    (.cond (.t 52)
     .skip
     (.exit 0 i_ref04_Same_j0)))
   (.seq
    (.block 1 i_ref04_Same_j1
     (.seq
      (.reg [] [
        ⟨(some 55), .fa 4 (.t 2), none, []⟩,
        ⟨(some 56), .load false 1 (.t 55), none, []⟩,
        ⟨(some 57), .mv (.t 5), none, []⟩,
        ⟨(some 58), .ia 5 (.t 56) (.t 57), none, []⟩,
        ⟨(some 59), .load true 5 (.t 58), none, []⟩,
        ⟨(some 60), .fa 4 (.t 3), none, []⟩,
        ⟨(some 61), .load false 1 (.t 60), none, []⟩,
        ⟨(some 62), .mv (.t 5), none, []⟩,
        ⟨(some 63), .ia 5 (.t 61) (.t 62), none, []⟩,
        ⟨(some 64), .load true 5 (.t 63), none, []⟩,
        ⟨(some 65), .qcall n_ref04_Same [(.t 59), (.t 64)] [], none, []⟩,
        ⟨(some 6), .mv (.t 65), none, []⟩])
      (.seq
       (.reg [] [
         ⟨(some 66), .mv (.t 6), none, []⟩,
         ⟨(some 67), .un .not (.t 66), none, []⟩])
       (.cond (.t 67)
        (.seq
         (.reg [] [
           ⟨(some 4), .mv (.k (.bool false)), none, []⟩])
         (.ret i_ref04_Same_r))
        .skip))))
    (.reg [] [
      ⟨(some 53), .mv (.t 5), none, []⟩,
      ⟨(some 54), .bin .plain .add (.t 53) (.k (.int .i64 1)), none, []⟩,
      ⟨(some 5), .mv (.t 54), none, []⟩])))

abbrev s_ref04_Same_J0 (h : Heap) : St := ⟨[.undef, .undef, .undef, .undef, .undef, .undef, .undef, .undef, .undef, .undef, .undef, .undef, .undef, .undef, .undef, .undef, .undef, .undef, .undef, .undef, .undef, .undef, .undef, .undef, .undef, .undef, .undef, .undef, .undef, .undef, .undef, .undef, .undef, .undef, .undef, .undef, .undef, .undef, .undef, .undef, .undef, .undef, .undef, .undef, .undef, .undef, .undef, .undef, .undef, .undef, .undef, .undef, .undef, .undef, .undef, .undef, .undef, .undef, .undef, .undef, .undef, .undef, .undef, .undef, .undef, .undef, .undef, .undef], h⟩
/-- heartwood/heartwoodref04.Same -/
def i_ref04_Same : Ev.Fn := ⟨2, 68, 2,
  (.seq
   (.reg [] [
     ⟨(some 2), .box 0 5 (.t 0), none, []⟩,
     ⟨(some 3), .box 1 5 (.t 1), none, []⟩,
     ⟨(some 4), .mv (.k (.bool false)), none, []⟩])
   (.seq
    (.seq
     (.reg [] [
       ⟨(some 7), .fa 0 (.t 2), none, []⟩,
       ⟨(some 8), .load false 1 (.t 7), none, []⟩,
       ⟨(some 9), .fa 0 (.t 3), none, []⟩,
       ⟨(some 10), .load false 1 (.t 9), none, []⟩,
       ⟨(some 11), .bin .plain .neq (.t 8) (.t 10), none, []⟩,
       ⟨(some 12), .mv (.t 11), none, []⟩,
       ⟨(some 13), .fa 1 (.t 2), (some (12, false)), []⟩,
       ⟨(some 14), .load false 1 (.t 13), (some (12, false)), []⟩,
       ⟨(some 15), .b2s (.t 14), (some (12, false)), []⟩,
       ⟨(some 16), .fa 1 (.t 3), (some (12, false)), []⟩,
       ⟨(some 17), .load false 1 (.t 16), (some (12, false)), []⟩,
       ⟨(some 18), .b2s (.t 17), (some (12, false)), []⟩,
       ⟨(some 19), .bin .plain .neq (.t 15) (.t 18), (some (12, false)), []⟩,
       ⟨(some 20), .pick (.t 12) (.k (.bool true)) (.t 19), none, []⟩,
       ⟨(some 21), .mv (.t 20), none, []⟩,
       ⟨(some 22), .fa 2 (.t 2), (some (21, false)), []⟩,
       ⟨(some 23), .load false 1 (.t 22), (some (21, false)), []⟩,
       ⟨(some 24), .b2s (.t 23), (some (21, false)), []⟩,
       ⟨(some 25), .fa 2 (.t 3), (some (21, false)), []⟩,
       ⟨(some 26), .load false 1 (.t 25), (some (21, false)), []⟩,
       ⟨(some 27), .b2s (.t 26), (some (21, false)), []⟩,
       ⟨(some 28), .bin .plain .neq (.t 24) (.t 27), (some (21, false)), []⟩,
       ⟨(some 29), .pick (.t 21) (.k (.bool true)) (.t 28), none, []⟩,
       ⟨(some 30), .mv (.t 29), none, []⟩,
       ⟨(some 31), .fa 3 (.t 2), (some (30, false)), []⟩,
       ⟨(some 32), .load false 1 (.t 31), (some (30, false)), []⟩,
       ⟨(some 33), .b2s (.t 32), (some (30, false)), []⟩,
       ⟨(some 34), .fa 3 (.t 3), (some (30, false)), []⟩,
       ⟨(some 35), .load false 1 (.t 34), (some (30, false)), []⟩,
       ⟨(some 36), .b2s (.t 35), (some (30, false)), []⟩,
       ⟨(some 37), .bin .plain .neq (.t 33) (.t 36), (some (30, false)), []⟩,
       ⟨(some 38), .pick (.t 30) (.k (.bool true)) (.t 37), none, []⟩,
       ⟨(some 39), .mv (.t 38), none, []⟩,
       ⟨(some 40), .fa 4 (.t 2), (some (39, false)), []⟩,
       ⟨(some 41), .load false 1 (.t 40), (some (39, false)), []⟩,
       ⟨(some 42), .len false (.t 41), (some (39, false)), []⟩,
       ⟨(some 43), .fa 4 (.t 3), (some (39, false)), []⟩,
       ⟨(some 44), .load false 1 (.t 43), (some (39, false)), []⟩,
       ⟨(some 45), .len false (.t 44), (some (39, false)), []⟩,
       ⟨(some 46), .bin .plain .neq (.t 42) (.t 45), (some (39, false)), []⟩,
       ⟨(some 47), .pick (.t 39) (.k (.bool true)) (.t 46), none, []⟩])
     (.cond (.t 47)
      (.seq
       (.reg [] [
         ⟨(some 4), .mv (.k (.bool false)), none, []⟩])
       (.ret i_ref04_Same_r))
      .skip))
    (.seq
     (.seq
      (.reg [] [
        ⟨(some 5), .mv (.k (.int .i64 0)), none, []⟩])
      (.block 0 i_ref04_Same_j0
       (.loop i_ref04_Same_k0 i_ref04_Same_b0)))
     (.seq
      (.reg [] [
        ⟨(some 4), .mv (.k (.bool true)), none, []⟩])
      (.ret i_ref04_Same_r))))),
  [.tmp 4], [], false, []⟩

def i_ref05_Put_r : List Bool := [false, false, false, false, false, false, true, false, false, false, false, false, false, false, false, false, false, false, false, false, false, false, false, false, false, false, false, false, false, false, false, false, false, false, false, false, false, false, false, false, false, false, false, false, false, false, false, false, false, false, false, false, false, false, false, false, false, false, false, false, false, false, false, false, false, false, false, false, false, false, false, false, false]
/-- heartwood/heartwoodref05.Put -/
def i_ref05_Put : Ev.Fn := ⟨3, 73, 2,
  (.seq
   (.reg [] [
     ⟨(some 3), .box 0 5 (.t 0), none, []⟩,
     ⟨(some 6), .new 1 [(.int .i64 0), (.slice none 0 0), (.slice none 0 0), (.slice none 0 0), (.slice none 0 0)], none, []⟩])
   (.seq
    (.seq
     (.reg [] [
       ⟨(some 7), .fa 4 (.t 3), none, []⟩,
       ⟨(some 8), .load false 1 (.t 7), none, []⟩,
       ⟨(some 9), .len false (.t 8), none, []⟩,
       ⟨(some 10), .bin .plain .eql (.t 9) (.k (.int .i64 0)), none, []⟩])
     (.cond (.t 10)
      (.seq
       (.reg [] [
         ⟨(some 11), .build [(.int .i64 0), (.slice none 0 0), (.slice none 0 0), (.slice none 0 0), (.slice none 0 0)] [], none, []⟩,
         ⟨(some 12), .cn (.t 1), none, []⟩,
         ⟨(some 13), .cn (.t 2), none, []⟩,
         ⟨(some 14), .build [(.int .i64 0), (.slice none 0 0), (.slice none 0 0), (.slice none 0 0), (.slice none 0 0)] [], none, []⟩,
         ⟨(some 15), .qcall n_ref05_Node [(.t 11), (.t 12), (.t 13), (.t 14)] [], none, []⟩,
         ⟨none, .store 5 (.t 6) (.t 15), none, []⟩])
       (.ret i_ref05_Put_r))
      .skip))
    (.seq
     (.seq
      (.reg [] [
        ⟨(some 16), .cn (.t 1), none, []⟩,
        ⟨(some 17), .b2s (.t 16), none, []⟩,
        ⟨(some 18), .fa 1 (.t 3), none, []⟩,
        ⟨(some 19), .load false 1 (.t 18), none, []⟩,
        ⟨(some 20), .b2s (.t 19), none, []⟩,
        ⟨(some 21), .bin .plain .eql (.t 17) (.t 20), none, []⟩])
      (.cond (.t 21)
       (.seq
        (.reg [] [
          ⟨(some 22), .fa 4 (.t 3), none, []⟩,
          ⟨(some 23), .load false 1 (.t 22), none, []⟩,
          ⟨(some 24), .ia 5 (.t 23) (.k (.int .i64 0)), none, []⟩,
          ⟨(some 25), .load true 5 (.t 24), none, []⟩,
          ⟨(some 26), .cn (.t 1), none, []⟩,
          ⟨(some 27), .cn (.t 2), none, []⟩,
          ⟨(some 28), .fa 4 (.t 3), none, []⟩,
          ⟨(some 29), .load false 1 (.t 28), none, []⟩,
          ⟨(some 30), .ia 5 (.t 29) (.k (.int .i64 1)), none, []⟩,
          ⟨(some 31), .load true 5 (.t 30), none, []⟩,
          ⟨(some 32), .qcall n_ref05_Node [(.t 25), (.t 26), (.t 27), (.t 31)] [], none, []⟩,
          ⟨none, .store 5 (.t 6) (.t 32), none, []⟩])
        (.ret i_ref05_Put_r))
       .skip))
     (.seq
      (.seq
       (.reg [] [
         ⟨(some 33), .cn (.t 1), none, []⟩,
         ⟨(some 34), .b2s (.t 33), none, []⟩,
         ⟨(some 35), .fa 1 (.t 3), none, []⟩,
         ⟨(some 36), .load false 1 (.t 35), none, []⟩,
         ⟨(some 37), .b2s (.t 36), none, []⟩,
         ⟨(some 38), .bin .plain .lss (.t 34) (.t 37), none, []⟩])
       (.cond (.t 38)
        (.seq
         (.reg [] [
           ⟨(some 39), .fa 4 (.t 3), none, []⟩,
           ⟨(some 40), .load false 1 (.t 39), none, []⟩,
           ⟨(some 41), .ia 5 (.t 40) (.k (.int .i64 0)), none, []⟩,
           ⟨(some 42), .load true 5 (.t 41), none, []⟩,
           ⟨(some 43), .cn (.t 1), none, []⟩,
           ⟨(some 44), .cn (.t 2), none, []⟩,
           ⟨(some 45), .qcall n_ref05_Put [(.t 42), (.t 43), (.t 44)] [], none, []⟩,
           ⟨(some 46), .fa 1 (.t 3), none, []⟩,
           ⟨(some 47), .load false 1 (.t 46), none, []⟩,
           ⟨(some 48), .fa 2 (.t 3), none, []⟩,
           ⟨(some 49), .load false 1 (.t 48), none, []⟩,
           ⟨(some 50), .fa 4 (.t 3), none, []⟩,
           ⟨(some 51), .load false 1 (.t 50), none, []⟩,
           ⟨(some 52), .ia 5 (.t 51) (.k (.int .i64 1)), none, []⟩,
           ⟨(some 53), .load true 5 (.t 52), none, []⟩,
           ⟨(some 54), .qcall n_ref05_Node [(.t 45), (.t 47), (.t 49), (.t 53)] [], none, []⟩,
           ⟨(some 55), .qcall n_ref05_level [(.t 54)] [], none, []⟩,
           ⟨none, .store 5 (.t 6) (.t 55), none, []⟩])
         (.ret i_ref05_Put_r))
        .skip))
      (.seq
       (.reg [] [
         ⟨(some 56), .fa 4 (.t 3), none, []⟩,
         ⟨(some 57), .load false 1 (.t 56), none, []⟩,
         ⟨(some 58), .ia 5 (.t 57) (.k (.int .i64 0)), none, []⟩,
         ⟨(some 59), .load true 5 (.t 58), none, []⟩,
         ⟨(some 60), .fa 1 (.t 3), none, []⟩,
         ⟨(some 61), .load false 1 (.t 60), none, []⟩,
         ⟨(some 62), .fa 2 (.t 3), none, []⟩,
         ⟨(some 63), .load false 1 (.t 62), none, []⟩,
         ⟨(some 64), .fa 4 (.t 3), none, []⟩,
         ⟨(some 65), .load false 1 (.t 64), none, []⟩,
         ⟨(some 66), .ia 5 (.t 65) (.k (.int .i64 1)), none, []⟩,
         ⟨(some 67), .load true 5 (.t 66), none, []⟩,
         ⟨(some 68), .cn (.t 1), none, []⟩,
         ⟨(some 69), .cn (.t 2), none, []⟩,
         ⟨(some 70), .qcall n_ref05_Put [(.t 67), (.t 68), (.t 69)] [], none, []⟩,
         ⟨(some 71), .qcall n_ref05_Node [(.t 59), (.t 61), (.t 63), (.t 70)] [], none, []⟩,
         ⟨(some 72), .qcall n_ref05_level [(.t 71)] [], none, []⟩,
         ⟨none, .store 5 (.t 6) (.t 72), none, []⟩])
       (.ret i_ref05_Put_r)))))),
  [.cell 6 true 5], [], false, []⟩

def i_ref05_Node_r : List Bool := [false, false, false, false, false, false, false, false, true, false, false, false, false, false, false]
/-- heartwood/heartwoodref05.Node -/
def i_ref05_Node : Ev.Fn := ⟨4, 15, 3,
  (.seq
   (.reg [] [
     ⟨(some 4), .box 0 5 (.t 0), none, []⟩,
     ⟨(some 7), .box 1 5 (.t 3), none, []⟩,
     ⟨(some 8), .new 2 [(.int .i64 0), (.slice none 0 0), (.slice none 0 0), (.slice none 0 0), (.slice none 0 0)], none, []⟩])
   (.seq
    (.reg [] [
      ⟨(some 9), .cn (.t 1), none, []⟩,
      ⟨(some 10), .cn (.t 2), none, []⟩,
      ⟨(some 11), .load true 5 (.t 4), none, []⟩,
      ⟨(some 12), .load true 5 (.t 7), none, []⟩,
      ⟨(some 13), .litd 5 2 [(.int .i64 0), (.slice none 0 0), (.slice none 0 0), (.slice none 0 0), (.slice none 0 0)] [(0, (.t 11)), (1, (.t 12))], none, []⟩,
      ⟨(some 14), .build [(.int .i64 0), (.slice none 0 0), (.slice none 0 0), (.slice none 0 0), (.slice none 0 0)] [(0, 1, (.k (.int .i64 1))), (1, 1, (.t 9)), (2, 1, (.t 10)), (4, 1, (.t 13))], none, []⟩,
      ⟨none, .store 5 (.t 8) (.t 14), none, []⟩])
    (.ret i_ref05_Node_r))),
  [.cell 8 true 5], [], false, []⟩

def i_ref05_level_r : List Bool := [false, false, true, false, false, false, false, false, false, false, false, false, false, false, false, false, false, false, false, false, false, false, false, false, false, false, false, false, false, false, false, false, false, false, false, false, false, false, false, false, false, false, false, false, false, false, false, false, false, false, false, false, false, false, false]
/-- heartwood/heartwoodref05.level -/
def i_ref05_level : Ev.Fn := ⟨1, 55, 2,
  (.seq
   (.reg [] [
     ⟨(some 1), .box 0 5 (.t 0), none, []⟩,
     ⟨(some 2), .new 1 [(.int .i64 0), (.slice none 0 0), (.slice none 0 0), (.slice none 0 0), (.slice none 0 0)], none, []⟩])
   (.seq
    (.reg [] [
      ⟨(some 4), .load true 5 (.t 1), none, []⟩,
      ⟨(some 5), .qcall n_ref05_tilt [(.t 4)] [], none, []⟩,
      ⟨(some 3), .mv (.t 5), none, []⟩])
    (.seq
     (.seq
      (.reg [] [
        ⟨(some 6), .mv (.t 3), none, []⟩,
        ⟨(some 7), .bin .plain .eql (.t 6) (.k (.int .i64 2)), none, []⟩])
      (.cond (.t 7)
       (.seq
        (.seq
         (.reg [] [
           ⟨(some 8), .fa 4 (.t 1), none, []⟩,
           ⟨(some 9), .load false 1 (.t 8), none, []⟩,
           ⟨(some 10), .ia 5 (.t 9) (.k (.int .i64 0)), none, []⟩,
           ⟨(some 11), .load true 5 (.t 10), none, []⟩,
           ⟨(some 12), .qcall n_ref05_tilt [(.t 11)] [], none, []⟩,
           ⟨(some 13), .bin .plain .lss (.t 12) (.k (.int .i64 0)), none, []⟩])
         (.cond (.t 13)
          (.reg [] [
            ⟨(some 14), .fa 4 (.t 1), none, []⟩,
            ⟨(some 15), .load false 1 (.t 14), none, []⟩,
            ⟨(some 16), .ia 5 (.t 15) (.k (.int .i64 0)), none, []⟩,
            ⟨(some 17), .load true 5 (.t 16), none, []⟩,
            ⟨(some 18), .qcall n_ref05_left [(.t 17)] [], none, []⟩,
            ⟨(some 19), .fa 1 (.t 1), none, []⟩,
            ⟨(some 20), .load false 1 (.t 19), none, []⟩,
            ⟨(some 21), .fa 2 (.t 1), none, []⟩,
            ⟨(some 22), .load false 1 (.t 21), none, []⟩,
            ⟨(some 23), .fa 4 (.t 1), none, []⟩,
            ⟨(some 24), .load false 1 (.t 23), none, []⟩,
            ⟨(some 25), .ia 5 (.t 24) (.k (.int .i64 1)), none, []⟩,
            ⟨(some 26), .load true 5 (.t 25), none, []⟩,
            ⟨(some 27), .qcall n_ref05_Node [(.t 18), (.t 20), (.t 22), (.t 26)] [], none, []⟩,
            ⟨none, .store 5 (.t 1) (.t 27), none, []⟩])
          .skip))
        (.seq
         (.reg [] [
           ⟨(some 28), .load true 5 (.t 1), none, []⟩,
           ⟨(some 29), .qcall n_ref05_right [(.t 28)] [], none, []⟩,
           ⟨none, .store 5 (.t 2) (.t 29), none, []⟩])
         (.ret i_ref05_level_r)))
       .skip))
     (.seq
      (.seq
       (.reg [] [
         ⟨(some 30), .mv (.t 3), none, []⟩,
         ⟨(some 31), .bin .plain .eql (.t 30) (.k (.int .i64 (-2))), none, []⟩])
       (.cond (.t 31)
        (.seq
         (.seq
          (.reg [] [
            ⟨(some 32), .fa 4 (.t 1), none, []⟩,
            ⟨(some 33), .load false 1 (.t 32), none, []⟩,
            ⟨(some 34), .ia 5 (.t 33) (.k (.int .i64 1)), none, []⟩,
            ⟨(some 35), .load true 5 (.t 34), none, []⟩,
            ⟨(some 36), .qcall n_ref05_tilt [(.t 35)] [], none, []⟩,
            ⟨(some 37), .bin .plain .gtr (.t 36) (.k (.int .i64 0)), none, []⟩])
          (.cond (.t 37)
           (.reg [] [
             ⟨(some 38), .fa 4 (.t 1), none, []⟩,
             ⟨(some 39), .load false 1 (.t 38), none, []⟩,
             ⟨(some 40), .ia 5 (.t 39) (.k (.int .i64 0)), none, []⟩,
             ⟨(some 41), .load true 5 (.t 40), none, []⟩,
             ⟨(some 42), .fa 1 (.t 1), none, []⟩,
             ⟨(some 43), .load false 1 (.t 42), none, []⟩,
             ⟨(some 44), .fa 2 (.t 1), none, []⟩,
             ⟨(some 45), .load false 1 (.t 44), none, []⟩,
             ⟨(some 46), .fa 4 (.t 1), none, []⟩,
             ⟨(some 47), .load false 1 (.t 46), none, []⟩,
             ⟨(some 48), .ia 5 (.t 47) (.k (.int .i64 1)), none, []⟩,
             ⟨(some 49), .load true 5 (.t 48), none, []⟩,
             ⟨(some 50), .qcall n_ref05_right [(.t 49)] [], none, []⟩,
             ⟨(some 51), .qcall n_ref05_Node [(.t 41), (.t 43), (.t 45), (.t 50)] [], none, []⟩,
             ⟨none, .store 5 (.t 1) (.t 51), none, []⟩])
           .skip))
         (.seq
          (.reg [] [
            ⟨(some 52), .load true 5 (.t 1), none, []⟩,
            ⟨(some 53), .qcall n_ref05_left [(.t 52)] [], none, []⟩,
            ⟨none, .store 5 (.t 2) (.t 53), none, []⟩])
          (.ret i_ref05_level_r)))
        .skip))
      (.seq
       (.reg [] [
         ⟨(some 54), .load true 5 (.t 1), none, []⟩,
         ⟨none, .store 5 (.t 2) (.t 54), none, []⟩])
       (.ret i_ref05_level_r)))))),
  [.cell 2 true 5], [], false, []⟩

def i_ref05_tilt_r : List Bool := [false, false, true, false, false, false, false, false, false, false, false, false, false, false]
/-- heartwood/heartwoodref05.tilt -/
def i_ref05_tilt : Ev.Fn := ⟨1, 14, 1,
  (.seq
   (.reg [] [
     ⟨(some 1), .box 0 5 (.t 0), none, []⟩,
     ⟨(some 2), .mv (.k (.int .i64 0)), none, []⟩])
   (.seq
    (.reg [] [
      ⟨(some 3), .fa 4 (.t 1), none, []⟩,
      ⟨(some 4), .load false 1 (.t 3), none, []⟩,
      ⟨(some 5), .ia 5 (.t 4) (.k (.int .i64 0)), none, []⟩,
      ⟨(some 6), .load true 5 (.t 5), none, []⟩,
      ⟨(some 7), .qcall n_ref04_Depth [(.t 6)] [], none, []⟩,
      ⟨(some 8), .fa 4 (.t 1), none, []⟩,
      ⟨(some 9), .load false 1 (.t 8), none, []⟩,
      ⟨(some 10), .ia 5 (.t 9) (.k (.int .i64 1)), none, []⟩,
      ⟨(some 11), .load true 5 (.t 10), none, []⟩,
      ⟨(some 12), .qcall n_ref04_Depth [(.t 11)] [], none, []⟩,
      ⟨(some 13), .bin .plain .sub (.t 7) (.t 12), none, []⟩,
      ⟨(some 2), .mv (.t 13), none, []⟩])
    (.ret i_ref05_tilt_r))),
  [.tmp 2], [], false, []⟩

def i_ref05_left_r : List Bool := [false, false, true, false, false, false, false, false, false, false, false, false, false, false, false, false, false, false, false, false, false, false, false, false, false, false, false, false, false, false]
/-- heartwood/heartwoodref05.left -/
def i_ref05_left : Ev.Fn := ⟨1, 30, 3,
  (.seq
   (.reg [] [
     ⟨(some 1), .box 0 5 (.t 0), none, []⟩,
     ⟨(some 2), .new 1 [(.int .i64 0), (.slice none 0 0), (.slice none 0 0), (.slice none 0 0), (.slice none 0 0)], none, []⟩])
   (.seq
    (.reg [] [
      ⟨(some 4), .fa 4 (.t 1), none, []⟩,
      ⟨(some 5), .load false 1 (.t 4), none, []⟩,
      ⟨(some 6), .ia 5 (.t 5) (.k (.int .i64 1)), none, []⟩,
      ⟨(some 7), .load true 5 (.t 6), none, []⟩,
      ⟨(some 3), .new 2 [(.int .i64 0), (.slice none 0 0), (.slice none 0 0), (.slice none 0 0), (.slice none 0 0)], none, []⟩,
      ⟨none, .store 5 (.t 3) (.t 7), none, []⟩])
    (.seq
     (.reg [] [
       ⟨(some 8), .fa 4 (.t 1), none, []⟩,
       ⟨(some 9), .load false 1 (.t 8), none, []⟩,
       ⟨(some 10), .ia 5 (.t 9) (.k (.int .i64 0)), none, []⟩,
       ⟨(some 11), .load true 5 (.t 10), none, []⟩,
       ⟨(some 12), .fa 1 (.t 1), none, []⟩,
       ⟨(some 13), .load false 1 (.t 12), none, []⟩,
       ⟨(some 14), .fa 2 (.t 1), none, []⟩,
       ⟨(some 15), .load false 1 (.t 14), none, []⟩,
       ⟨(some 16), .fa 4 (.t 3), none, []⟩,
       ⟨(some 17), .load false 1 (.t 16), none, []⟩,
       ⟨(some 18), .ia 5 (.t 17) (.k (.int .i64 0)), none, []⟩,
       ⟨(some 19), .load true 5 (.t 18), none, []⟩,
       ⟨(some 20), .qcall n_ref05_Node [(.t 11), (.t 13), (.t 15), (.t 19)] [], none, []⟩,
       ⟨(some 21), .fa 1 (.t 3), none, []⟩,
       ⟨(some 22), .load false 1 (.t 21), none, []⟩,
       ⟨(some 23), .fa 2 (.t 3), none, []⟩,
       ⟨(some 24), .load false 1 (.t 23), none, []⟩,
       ⟨(some 25), .fa 4 (.t 3), none, []⟩,
       ⟨(some 26), .load false 1 (.t 25), none, []⟩,
       ⟨(some 27), .ia 5 (.t 26) (.k (.int .i64 1)), none, []⟩,
       ⟨(some 28), .load true 5 (.t 27), none, []⟩,
       ⟨(some 29), .qcall n_ref05_Node [(.t 20), (.t 22), (.t 24), (.t 28)] [], none, []⟩,
       ⟨none, .store 5 (.t 2) (.t 29), none, []⟩])
     (.ret i_ref05_left_r)))),
  [.cell 2 true 5], [], false, []⟩

def i_ref05_right_r : List Bool := [false, false, true, false, false, false, false, false, false, false, false, false, false, false, false, false, false, false, false, false, false, false, false, false, false, false, false, false, false, false]
/-- heartwood/heartwoodref05.right -/
def i_ref05_right : Ev.Fn := ⟨1, 30, 3,
  (.seq
   (.reg [] [
     ⟨(some 1), .box 0 5 (.t 0), none, []⟩,
     ⟨(some 2), .new 1 [(.int .i64 0), (.slice none 0 0), (.slice none 0 0), (.slice none 0 0), (.slice none 0 0)], none, []⟩])
   (.seq
    (.reg [] [
      ⟨(some 4), .fa 4 (.t 1), none, []⟩,
      ⟨(some 5), .load false 1 (.t 4), none, []⟩,
      ⟨(some 6), .ia 5 (.t 5) (.k (.int .i64 0)), none, []⟩,
      ⟨(some 7), .load true 5 (.t 6), none, []⟩,
      ⟨(some 3), .new 2 [(.int .i64 0), (.slice none 0 0), (.slice none 0 0), (.slice none 0 0), (.slice none 0 0)], none, []⟩,
      ⟨none, .store 5 (.t 3) (.t 7), none, []⟩])
    (.seq
     (.reg [] [
       ⟨(some 8), .fa 4 (.t 3), none, []⟩,
       ⟨(some 9), .load false 1 (.t 8), none, []⟩,
       ⟨(some 10), .ia 5 (.t 9) (.k (.int .i64 0)), none, []⟩,
       ⟨(some 11), .load true 5 (.t 10), none, []⟩,
       ⟨(some 12), .fa 1 (.t 3), none, []⟩,
       ⟨(some 13), .load false 1 (.t 12), none, []⟩,
       ⟨(some 14), .fa 2 (.t 3), none, []⟩,
       ⟨(some 15), .load false 1 (.t 14), none, []⟩,
       ⟨(some 16), .fa 4 (.t 3), none, []⟩,
       ⟨(some 17), .load false 1 (.t 16), none, []⟩,
       ⟨(some 18), .ia 5 (.t 17) (.k (.int .i64 1)), none, []⟩,
       ⟨(some 19), .load true 5 (.t 18), none, []⟩,
       ⟨(some 20), .fa 1 (.t 1), none, []⟩,
       ⟨(some 21), .load false 1 (.t 20), none, []⟩,
       ⟨(some 22), .fa 2 (.t 1), none, []⟩,
       ⟨(some 23), .load false 1 (.t 22), none, []⟩,
       ⟨(some 24), .fa 4 (.t 1), none, []⟩,
       ⟨(some 25), .load false 1 (.t 24), none, []⟩,
       ⟨(some 26), .ia 5 (.t 25) (.k (.int .i64 1)), none, []⟩,
       ⟨(some 27), .load true 5 (.t 26), none, []⟩,
       ⟨(some 28), .qcall n_ref05_Node [(.t 19), (.t 21), (.t 23), (.t 27)] [], none, []⟩,
       ⟨(some 29), .qcall n_ref05_Node [(.t 11), (.t 13), (.t 15), (.t 28)] [], none, []⟩,
       ⟨none, .store 5 (.t 2) (.t 29), none, []⟩])
     (.ret i_ref05_right_r)))),
  [.cell 2 true 5], [], false, []⟩

def i_law10_CodeWrites_r : List Bool := [false, false, true, false, false, false, false, false, false, false, false, false, false, false, false, false, false, false, false, false, false, false, false, false, false, false, false, false, false, false, false, false, false, false, false, false, false, false, false]
/-- heartwood/heartwoodlaw10.CodeWrites -/
def i_law10_CodeWrites : Ev.Fn := ⟨1, 39, 1,
  (.seq
   (.reg [] [
     ⟨(some 1), .box 0 5 (.t 0), none, []⟩,
     ⟨(some 2), .mv (.k (.bool false)), none, []⟩])
   (.seq
    (.reg [] [
      ⟨(some 9), .qcall n_law10_up [] [], none, []⟩,
      ⟨(some 3), .mv (.t 9), none, []⟩])
    (.seq
     (.reg [] [
       ⟨(some 10), .load true 5 (.t 1), none, []⟩,
       ⟨(some 11), .qcall n_law10_small [(.t 10)] [], none, []⟩,
       ⟨(some 4), .mv (.t 11), none, []⟩])
     (.seq
      (.seq
       (.reg [] [
         ⟨(some 12), .mv (.t 4), none, []⟩,
         ⟨(some 13), .un .not (.t 12), none, []⟩])
       (.cond (.t 13)
        (.seq
         (.reg [] [
           ⟨(some 14), .mv (.t 3), none, []⟩,
           ⟨(some 2), .mv (.t 14), none, []⟩])
         (.ret i_law10_CodeWrites_r))
        .skip))
      (.seq
       (.reg [] [
         ⟨(some 16), .load true 5 (.t 1), none, []⟩,
         ⟨(some 17), .qcall n_code_Write [(.t 16)] [], none, []⟩,
         ⟨(some 15), .mv (.t 17), none, []⟩,
         ⟨(some 18), .ext 0 (.t 15), none, []⟩,
         ⟨(some 19), .ext 1 (.t 15), none, []⟩,
         ⟨(some 5), .cn (.t 18), none, []⟩,
         ⟨(some 6), .mv (.t 19), none, []⟩])
       (.seq
        (.reg [] [
          ⟨(some 21), .load true 5 (.t 1), none, []⟩,
          ⟨(some 22), .qcall n_ref10_Write [(.t 21)] [], none, []⟩,
          ⟨(some 20), .mv (.t 22), none, []⟩,
          ⟨(some 23), .ext 0 (.t 20), none, []⟩,
          ⟨(some 24), .ext 1 (.t 20), none, []⟩,
          ⟨(some 7), .cn (.t 23), none, []⟩,
          ⟨(some 8), .mv (.t 24), none, []⟩])
        (.seq
         (.reg [] [
           ⟨(some 25), .mv (.t 3), none, []⟩,
           ⟨(some 26), .mv (.t 25), none, []⟩,
           ⟨(some 27), .cn (.t 5), (some (26, true)), []⟩,
           ⟨(some 28), .b2s (.t 27), (some (26, true)), []⟩,
           ⟨(some 29), .cn (.t 7), (some (26, true)), []⟩,
           ⟨(some 30), .b2s (.t 29), (some (26, true)), []⟩,
           ⟨(some 31), .bin .plain .eql (.t 28) (.t 30), (some (26, true)), []⟩,
           ⟨(some 32), .pick (.t 26) (.t 31) (.k (.bool false)), none, []⟩,
           ⟨(some 33), .mv (.t 32), none, []⟩,
           ⟨(some 34), .mv (.t 6), (some (33, true)), []⟩,
           ⟨(some 35), .qcall n_law00_Code [(.t 34)] [], (some (33, true)), []⟩,
           ⟨(some 36), .mv (.t 8), (some (33, true)), []⟩,
           ⟨(some 37), .bin .plain .eql (.t 35) (.t 36), (some (33, true)), []⟩,
           ⟨(some 38), .pick (.t 33) (.t 37) (.k (.bool false)), none, []⟩,
           ⟨(some 2), .mv (.t 38), none, []⟩])
         (.ret i_law10_CodeWrites_r)))))))),
  [.tmp 2], [], false, []⟩

def i_law10_up_r : List Bool := [true, false, false, false, false, false, false, false, false, false, false, false, false, false, false, false, false, false, false, false, false, false, false, false, false, false, false, false, false, false, false, false]
/-- heartwood/heartwoodlaw10.up -/
def i_law10_up : Ev.Fn := ⟨0, 32, 4,
  (.seq
   (.reg [] [
     ⟨(some 0), .mv (.k (.bool false)), none, []⟩])
   (.seq
    (.reg [] [
      ⟨(some 6), .lit 0 ty_uint8 1 1 [(.int .u8 0)] [(0, (.k (.int .u8 97)))], none, []⟩,
      ⟨(some 7), .markb (.t 6), none, []⟩,
      ⟨(some 8), .lit 1 ty_uint8 1 1 [(.int .u8 0)] [(0, (.k (.int .u8 98)))], none, []⟩,
      ⟨(some 9), .markb (.t 8), none, []⟩,
      ⟨(some 10), .make 2 ty_api_Tree 5 104 [(.int .i64 0), (.slice none 0 0), (.slice none 0 0), (.slice none 0 0), (.slice none 0 0)] (.k (.int .i64 2)) (.k (.int .i64 2)), none, []⟩,
      ⟨(some 11), .build [(.int .i64 0), (.slice none 0 0), (.slice none 0 0), (.slice none 0 0), (.slice none 0 0)] [(0, 1, (.k (.int .i64 1))), (1, 1, (.t 7)), (2, 1, (.t 9)), (4, 1, (.t 10))], none, [10]⟩,
      ⟨(some 12), .qcall n_code_Write [(.t 11)] [], none, []⟩,
      ⟨(some 5), .mv (.t 12), none, []⟩,
      ⟨(some 13), .ext 0 (.t 5), none, []⟩,
      ⟨(some 14), .ext 1 (.t 5), none, []⟩,
      ⟨(some 1), .cn (.t 13), none, []⟩,
      ⟨(some 2), .mv (.t 14), none, []⟩])
    (.seq
     (.reg [] [
       ⟨(some 16), .litd 1 2 [(.int .u8 0)] [(0, (.k (.int .u8 0))), (1, (.k (.int .u8 0)))], none, []⟩,
       ⟨(some 17), .qcall n_code_Read [(.t 16)] [], none, []⟩,
       ⟨(some 15), .mv (.t 17), none, []⟩,
       ⟨(some 18), .ext 0 (.t 15), none, []⟩,
       ⟨(some 19), .ext 1 (.t 15), none, []⟩,
       ⟨(some 3), .new 3 [(.int .i64 0), (.slice none 0 0), (.slice none 0 0), (.slice none 0 0), (.slice none 0 0)], none, []⟩,
       ⟨none, .store 5 (.t 3) (.t 18), none, []⟩,
       ⟨(some 4), .mv (.t 19), none, []⟩])
     (.seq
      (.reg [] [
        ⟨(some 20), .mv (.t 2), none, []⟩,
        ⟨(some 21), .bin (.iface ty_api_Code true) .eql (.t 20) (.k .nilIface), none, []⟩,
        ⟨(some 22), .mv (.t 21), none, []⟩,
        ⟨(some 23), .cn (.t 1), (some (22, true)), []⟩,
        ⟨(some 24), .b2s (.t 23), (some (22, true)), []⟩,
        ⟨(some 25), .bin .plain .eql (.t 24) (.k (.string ⟨#[1, 1, 97, 1, 98, 0, 0]⟩)), (some (22, true)), []⟩,
        ⟨(some 26), .pick (.t 22) (.t 25) (.k (.bool false)), none, []⟩,
        ⟨(some 27), .mv (.t 26), none, []⟩,
        ⟨(some 28), .mv (.t 4), (some (27, true)), []⟩,
        ⟨(some 29), .mki ty_api_Code (.k (.int .i64 4)), (some (27, true)), []⟩,
        ⟨(some 30), .bin (.iface ty_api_Code false) .eql (.t 28) (.t 29), (some (27, true)), []⟩,
        ⟨(some 31), .pick (.t 27) (.t 30) (.k (.bool false)), none, []⟩,
        ⟨(some 0), .mv (.t 31), none, []⟩])
      (.ret i_law10_up_r))))),
  [.tmp 0], [], false, []⟩

def i_code_Write_r : List Bool := [false, false, true, true, false, false, false, false, false, false, false, false, false, false, false]
/-- heartwood/code.Write -/
def i_code_Write : Ev.Fn := ⟨1, 15, 2,
  (.seq
   (.reg [] [
     ⟨(some 1), .box 0 5 (.t 0), none, []⟩,
     ⟨(some 2), .cn (.k (.slice none 0 0)), none, []⟩,
     ⟨(some 3), .mv (.k .nilIface), none, []⟩])
   (.seq
    (.seq
     (.reg [] [
       ⟨(some 5), .load true 5 (.t 1), none, []⟩,
       ⟨(some 6), .qcall n_tree_Check [(.t 5)] [], none, []⟩,
       ⟨(some 4), .mv (.t 6), none, []⟩])
     (.seq
      (.reg [] [
        ⟨(some 7), .mv (.t 4), none, []⟩,
        ⟨(some 8), .bin (.iface ty_api_Code true) .neq (.t 7) (.k .nilIface), none, []⟩])
      (.cond (.t 8)
       (.seq
        (.reg [] [
          ⟨(some 9), .mv (.t 4), none, []⟩,
          ⟨(some 2), .cn (.k (.slice none 0 0)), none, []⟩,
          ⟨(some 3), .mv (.t 9), none, []⟩])
        (.ret i_code_Write_r))
       .skip)))
    (.seq
     (.seq
      (.reg [] [
        ⟨(some 10), .load true 5 (.t 1), none, []⟩,
        ⟨(some 11), .qcall n_code_long [(.t 10)] [], none, []⟩])
      (.cond (.t 11)
       (.seq
        (.reg [] [
          ⟨(some 12), .mki ty_api_Code (.k (.int .i64 2)), none, []⟩,
          ⟨(some 2), .cn (.k (.slice none 0 0)), none, []⟩,
          ⟨(some 3), .mv (.t 12), none, []⟩])
        (.ret i_code_Write_r))
       .skip))
     (.seq
      (.reg [] [
        ⟨(some 13), .load true 5 (.t 1), none, []⟩,
        ⟨(some 14), .qcall n_code_write [(.k (.slice none 0 0)), (.t 13)] [1], none, []⟩,
        ⟨(some 2), .cn (.t 14), none, [14]⟩,
        ⟨(some 3), .mv (.k .nilIface), none, []⟩])
      (.ret i_code_Write_r))))),
  [.tmp 2, .tmp 3], [], false, []⟩

def i_code_long_r : List Bool := [false, false, true, false, false, false, false, false, false, false, false, false, false, false, false, false, false, false, false]
def i_code_long_j1 : List Bool := [false, false, false, false, false, false, false, false, false, false, true, true, true, false, false, false, false, false, false]
def i_code_long_k0 : List Bool := [false, false, false, false, false, false, false, false, false, false, true, true, true, false, false, false, false, false, false]
def i_code_long_j0 : List Bool := [false, false, false, false, false, false, false, false, false, false, false, false, false, false, false, false, false, false, false]
abbrev s_code_long_R (t2 : AV) (h : Heap) : St := ⟨[.undef, .undef, t2, .undef, .undef, .undef, .undef, .undef, .undef, .undef, .undef, .undef, .undef, .undef, .undef, .undef, .undef, .undef, .undef], h⟩
abbrev s_code_long_K0 (t10 t11 t12 : AV) (h : Heap) : St := ⟨[.undef, .undef, .undef, .undef, .undef, .undef, .undef, .undef, .undef, .undef, t10, t11, t12, .undef, .undef, .undef, .undef, .undef, .undef], h⟩
def i_code_long_b0 : IR :=
  (.seq
   (.reg [] [
     ⟨(some 13), .bin .plain .lss (.t 12) (.t 11), none, []⟩])
   (.seq
    (.cond (.t 13)
     .skip
     (.exit 0 i_code_long_j0))
    (.seq
     (.block 1 i_code_long_j1
      (.seq
       (.reg [] [
         ⟨(some 14), .ia 5 (.t 10) (.t 12), none, []⟩,
         ⟨(some 15), .load true 5 (.t 14), none, []⟩,
         ⟨(some 4), .new 1 [(.int .i64 0), (.slice none 0 0), (.slice none 0 0), (.slice none 0 0), (.slice none 0 0)], none, []⟩,
         ⟨none, .store 5 (.t 4) (.t 15), none, []⟩])
       (.seq
        (.reg [] [
          ⟨(some 16), .load true 5 (.t 4), none, []⟩,
          ⟨(some 17), .qcall n_code_long [(.t 16)] [], none, []⟩])
        (.cond (.t 17)
         (.seq
          (.reg [] [
            ⟨(some 2), .mv (.k (.bool true)), none, []⟩])
          (.ret i_code_long_r))
         .skip))))
     (.reg [] [
       ⟨(some 18), .bin .plain .add (.t 12) (.k (.int .i64 1)), none, []⟩,
       ⟨(some 12), .mv (.t 18), none, []⟩]))))

abbrev s_code_long_J0 (h : Heap) : St := ⟨[.undef, .undef, .undef, .undef, .undef, .undef, .undef, .undef, .undef, .undef, .undef, .undef, .undef, .undef, .undef, .undef, .undef, .undef, .undef], h⟩
/-- heartwood/code.long -/
def i_code_long : Ev.Fn := ⟨1, 19, 2,
  (.seq
   (.reg [] [
     ⟨(some 1), .box 0 5 (.t 0), none, []⟩,
     ⟨(some 2), .mv (.k (.bool false)), none, []⟩])
   (.seq
    (.seq
     (.reg [] [
       ⟨(some 5), .fa 3 (.t 1), none, []⟩,
       ⟨(some 6), .load false 1 (.t 5), none, []⟩,
       ⟨(some 7), .len false (.t 6), none, []⟩,
       ⟨(some 8), .bin .plain .gtr (.t 7) (.k (.int .i64 32)), none, []⟩])
     (.cond (.t 8)
      (.seq
       (.reg [] [
         ⟨(some 2), .mv (.k (.bool true)), none, []⟩])
       (.ret i_code_long_r))
      .skip))
    (.seq
     (.seq
      (.reg [] [
        ⟨(some 9), .fa 4 (.t 1), none, []⟩,
        ⟨(some 10), .load false 1 (.t 9), none, []⟩,
        ⟨(some 11), .len false (.t 10), none, []⟩,
        ⟨(some 12), .mv (.k (.int .i64 0)), none, []⟩])
      (.block 0 i_code_long_j0
       (.loop i_code_long_k0 i_code_long_b0)))
     (.seq
      (.reg [] [
        ⟨(some 2), .mv (.k (.bool false)), none, []⟩])
      (.ret i_code_long_r))))),
  [.tmp 2], [], false, []⟩

def i_code_write_r : List Bool := [false, false, false, false, true, false, false, false, false, false, false, false, false, false, false, false, false, false, false, false, false, false, false, false, false, false, false, false, false, false, false, false, false, false, false, false, false, false, false, false, false, false, false, false, false, false, false, false, false, false, false, false, false, false, false, false]
def i_code_write_j0 : List Bool := [true, false, false, true, false, false, false, false, false, false, false, false, false, false, false, false, false, false, false, false, false, false, false, false, false, false, false, false, false, false, false, false, false, false, false, false, false, false, false, false, false, false, false, false, false, false, false, false, false, false, false, false, false, false, false, false]
def i_code_write_j2 : List Bool := [true, false, false, false, false, false, false, false, false, false, false, false, false, false, false, false, false, false, false, false, false, false, false, false, false, false, false, false, false, false, false, false, false, false, false, false, false, false, false, false, false, false, false, false, false, true, true, true, false, false, false, false, false, false, false, false]
def i_code_write_k0 : List Bool := [true, false, false, false, false, false, false, false, false, false, false, false, false, false, false, false, false, false, false, false, false, false, false, false, false, false, false, false, false, false, false, false, false, false, false, false, false, false, false, false, false, false, false, false, false, true, true, true, false, false, false, false, false, false, false, false]
def i_code_write_j1 : List Bool := [true, false, false, false, false, false, false, false, false, false, false, false, false, false, false, false, false, false, false, false, false, false, false, false, false, false, false, false, false, false, false, false, false, false, false, false, false, false, false, false, false, false, false, false, false, false, false, false, false, false, false, false, false, false, false, false]
abbrev s_code_write_R (t4 : AV) (h : Heap) : St := ⟨[.undef, .undef, .undef, .undef, t4, .undef, .undef, .undef, .undef, .undef, .undef, .undef, .undef, .undef, .undef, .undef, .undef, .undef, .undef, .undef, .undef, .undef, .undef, .undef, .undef, .undef, .undef, .undef, .undef, .undef, .undef, .undef, .undef, .undef, .undef, .undef, .undef, .undef, .undef, .undef, .undef, .undef, .undef, .undef, .undef, .undef, .undef, .undef, .undef, .undef, .undef, .undef, .undef, .undef, .undef, .undef], h⟩
abbrev s_code_write_K0 (t0 t45 t46 t47 : AV) (h : Heap) : St := ⟨[t0, .undef, .undef, .undef, .undef, .undef, .undef, .undef, .undef, .undef, .undef, .undef, .undef, .undef, .undef, .undef, .undef, .undef, .undef, .undef, .undef, .undef, .undef, .undef, .undef, .undef, .undef, .undef, .undef, .undef, .undef, .undef, .undef, .undef, .undef, .undef, .undef, .undef, .undef, .undef, .undef, .undef, .undef, .undef, .undef, t45, t46, t47, .undef, .undef, .undef, .undef, .undef, .undef, .undef, .undef], h⟩
def i_code_write_b0 : IR :=
  (.seq
   (.reg [] [
     ⟨(some 48), .bin .plain .lss (.t 47) (.t 46), none, []⟩])
   (.seq
    (.cond (.t 48)
     .skip
     (.exit 1 i_code_write_j1))
    (.seq
     (.block 2 i_code_write_j2
      (.seq
       (.reg [] [
         ⟨(some 49), .ia 5 (.t 45) (.t 47), none, []⟩,
         ⟨(some 50), .load true 5 (.t 49), none, []⟩,
         ⟨(some 6), .new 2 [(.int .i64 0), (.slice none 0 0), (.slice none 0 0), (.slice none 0 0), (.slice none 0 0)], none, []⟩,
         ⟨none, .store 5 (.t 6) (.t 50), none, []⟩])
       (.reg [] [
         ⟨(some 51), .mv (.t 0), none, []⟩,
         ⟨(some 52), .load true 5 (.t 6), none, []⟩,
         ⟨(some 53), .call n_code_write [(.t 51), (.t 52)] [3], none, []⟩,
         ⟨(some 0), .mv (.t 53), none, []⟩])))
     (.reg [] [
       ⟨(some 54), .bin .plain .add (.t 47) (.k (.int .i64 1)), none, []⟩,
       ⟨(some 47), .mv (.t 54), none, []⟩]))))

abbrev s_code_write_J1 (t0 : AV) (h : Heap) : St := ⟨[t0, .undef, .undef, .undef, .undef, .undef, .undef, .undef, .undef, .undef, .undef, .undef, .undef, .undef, .undef, .undef, .undef, .undef, .undef, .undef, .undef, .undef, .undef, .undef, .undef, .undef, .undef, .undef, .undef, .undef, .undef, .undef, .undef, .undef, .undef, .undef, .undef, .undef, .undef, .undef, .undef, .undef, .undef, .undef, .undef, .undef, .undef, .undef, .undef, .undef, .undef, .undef, .undef, .undef, .undef, .undef], h⟩
/-- heartwood/code.write -/
def i_code_write : Ev.Fn := ⟨2, 56, 4,
  (.seq
   (.reg [] [
     ⟨(some 3), .box 0 5 (.t 1), none, []⟩,
     ⟨(some 4), .mv (.k (.slice none 0 0)), none, []⟩])
   (.seq
    (.reg [] [
      ⟨(some 7), .mv (.t 0), none, []⟩,
      ⟨(some 8), .fa 0 (.t 3), none, []⟩,
      ⟨(some 9), .load false 1 (.t 8), none, []⟩,
      ⟨(some 10), .conv .u8 (.t 9), none, []⟩,
      ⟨(some 11), .litd 1 1 [(.int .u8 0)] [(0, (.t 10))], none, []⟩,
      ⟨(some 12), .app 1 ty_uint8 1 1 (.t 7) (.t 11), none, []⟩,
      ⟨(some 0), .mv (.t 12), none, []⟩])
    (.seq
     (.seq
      (.reg [] [
        ⟨(some 13), .fa 0 (.t 3), none, []⟩,
        ⟨(some 14), .load false 1 (.t 13), none, []⟩])
      (.block 0 i_code_write_j0
       (.seq
        (.reg [] [
          ⟨(some 16), .bin .plain .eql (.t 14) (.k (.int .i64 1)), none, []⟩,
          ⟨(some 15), .mv (.t 16), none, []⟩])
        (.cond (.t 15)
         (.reg [(4, 6)] [
           ⟨(some 17), .mv (.t 0), none, []⟩,
           ⟨(some 18), .fa 1 (.t 3), none, []⟩,
           ⟨(some 19), .load false 1 (.t 18), none, []⟩,
           ⟨(some 20), .qcall n_coder_Bytes [(.t 19)] [], none, []⟩,
           ⟨(some 21), .app 1 ty_uint8 1 1 (.t 17) (.t 20), none, []⟩,
           ⟨(some 22), .fa 2 (.t 3), none, []⟩,
           ⟨(some 23), .load false 1 (.t 22), none, []⟩,
           ⟨(some 24), .qcall n_coder_Bytes [(.t 23)] [], none, []⟩,
           ⟨(some 25), .app 1 ty_uint8 1 1 (.t 21) (.t 24), none, []⟩,
           ⟨(some 0), .mv (.t 25), none, []⟩])
         (.seq
          (.reg [] [
            ⟨(some 27), .bin .plain .eql (.t 14) (.k (.int .i64 2)), none, []⟩,
            ⟨(some 26), .mv (.t 27), none, []⟩])
          (.cond (.t 26)
           (.reg [(4, 6)] [
             ⟨(some 28), .mv (.t 0), none, []⟩,
             ⟨(some 29), .fa 1 (.t 3), none, []⟩,
             ⟨(some 30), .load false 1 (.t 29), none, []⟩,
             ⟨(some 31), .qcall n_coder_Bytes [(.t 30)] [], none, []⟩,
             ⟨(some 32), .app 1 ty_uint8 1 1 (.t 28) (.t 31), none, []⟩,
             ⟨(some 33), .fa 3 (.t 3), none, []⟩,
             ⟨(some 34), .load false 1 (.t 33), none, []⟩,
             ⟨(some 35), .qcall n_coder_Bytes [(.t 34)] [], none, []⟩,
             ⟨(some 36), .app 1 ty_uint8 1 1 (.t 32) (.t 35), none, []⟩,
             ⟨(some 0), .mv (.t 36), none, []⟩])
           (.seq
            (.reg [] [
              ⟨(some 38), .bin .plain .eql (.t 14) (.k (.int .i64 3)), none, []⟩,
              ⟨(some 37), .mv (.t 38), none, []⟩])
            (.cond (.t 37)
             (.reg [] [
               ⟨(some 39), .mv (.t 0), none, []⟩,
               ⟨(some 40), .fa 3 (.t 3), none, []⟩,
               ⟨(some 41), .load false 1 (.t 40), none, []⟩,
               ⟨(some 42), .qcall n_coder_Bytes [(.t 41)] [], none, []⟩,
               ⟨(some 43), .app 1 ty_uint8 1 1 (.t 39) (.t 42), none, []⟩,
               ⟨(some 0), .mv (.t 43), none, []⟩])
             .skip))))))))
     (.seq
      (.seq
       (.reg [] [
         ⟨(some 44), .fa 4 (.t 3), none, []⟩,
         ⟨(some 45), .load false 1 (.t 44), none, []⟩,
         ⟨(some 46), .len false (.t 45), none, []⟩,
         ⟨(some 47), .mv (.k (.int .i64 0)), none, []⟩])
       (.block 1 i_code_write_j1
        (.loop i_code_write_k0 i_code_write_b0)))
      (.seq
       (.reg [] [
         ⟨(some 55), .mv (.t 0), none, []⟩,
         ⟨(some 4), .mv (.t 55), none, []⟩])
       (.ret i_code_write_r)))))),
  [.tmp 4], [true], false, [true, false]⟩

def i_coder_Bytes_r : List Bool := [false, false, true, false, false, false, false, false, false]
/-- heartwood/coder.Bytes -/
def i_coder_Bytes : Ev.Fn := ⟨1, 9, 2,
  (.seq
   (.reg [] [
     ⟨(some 2), .cn (.k (.slice none 0 0)), none, []⟩])
   (.seq
    (.reg [] [
      ⟨(some 3), .cn (.t 0), none, []⟩,
      ⟨(some 4), .len false (.t 3), none, []⟩,
      ⟨(some 5), .conv .u64 (.t 4), none, []⟩,
      ⟨(some 6), .qcall n_coder_Number [(.t 5)] [0], none, []⟩,
      ⟨(some 7), .cn (.t 0), none, []⟩,
      ⟨(some 8), .app 1 ty_uint8 1 1 (.t 6) (.t 7), none, []⟩,
      ⟨(some 2), .cn (.t 8), none, [8]⟩])
    (.ret i_coder_Bytes_r))),
  [.tmp 2], [], false, []⟩

def i_coder_Number_r : List Bool := [false, false, true, false, false, false, false, false, false, false, false, false, false, false, false, false, false, false, false, false, false, false, false, false, false, false, false, false, false, false, false, false, false, false, false, false, false, false, false, false, false, false, false]
def i_coder_Number_j1 : List Bool := [true, false, false, true, false, false, false, false, false, false, false, false, false, false, false, false, false, false, false, false, false, false, false, false, false, false, false, false, false, false, false, false, false, false, false, false, false, false, false, false, false, false, false]
def i_coder_Number_k0 : List Bool := [true, false, false, true, false, false, false, false, false, false, false, false, false, false, false, false, false, false, false, false, false, false, false, false, false, false, false, false, false, false, false, false, false, false, false, false, false, false, false, false, false, false, false]
def i_coder_Number_j0 : List Bool := [true, false, false, true, false, false, false, false, false, false, false, false, false, false, false, false, false, false, false, false, false, false, false, false, false, false, false, false, false, false, false, false, false, false, false, false, false, false, false, false, false, false, false]
def i_coder_Number_j3 : List Bool := [true, false, false, true, true, false, false, false, false, false, false, false, false, false, false, false, false, false, false, false, false, false, false, false, false, false, true, true, false, false, false, false, false, false, false, false, false, false, false, false, false, false, false]
def i_coder_Number_k1 : List Bool := [true, false, false, true, true, false, false, false, false, false, false, false, false, false, false, false, false, false, false, false, false, false, false, false, false, false, true, true, false, false, false, false, false, false, false, false, false, false, false, false, false, false, false]
def i_coder_Number_j2 : List Bool := [false, false, false, false, true, false, false, false, false, false, false, false, false, false, false, false, false, false, false, false, false, false, false, false, false, false, false, false, false, false, false, false, false, false, false, false, false, false, false, false, false, false, false]
abbrev s_coder_Number_R (t2 : AV) (h : Heap) : St := ⟨[.undef, .undef, t2, .undef, .undef, .undef, .undef, .undef, .undef, .undef, .undef, .undef, .undef, .undef, .undef, .undef, .undef, .undef, .undef, .undef, .undef, .undef, .undef, .undef, .undef, .undef, .undef, .undef, .undef, .undef, .undef, .undef, .undef, .undef, .undef, .undef, .undef, .undef, .undef, .undef, .undef, .undef, .undef], h⟩
abbrev s_coder_Number_K0 (t0 t3 : AV) (h : Heap) : St := ⟨[t0, .undef, .undef, t3, .undef, .undef, .undef, .undef, .undef, .undef, .undef, .undef, .undef, .undef, .undef, .undef, .undef, .undef, .undef, .undef, .undef, .undef, .undef, .undef, .undef, .undef, .undef, .undef, .undef, .undef, .undef, .undef, .undef, .undef, .undef, .undef, .undef, .undef, .undef, .undef, .undef, .undef, .undef], h⟩
def i_coder_Number_b0 : IR :=
  (.seq
   (.seq
    (.reg [] [
      ⟨(some 11), .mv (.t 3), none, []⟩,
      ⟨(some 12), .bin .plain .lss (.t 11) (.k (.int .i64 8)), none, []⟩,
      ⟨(some 13), .mv (.t 12), none, []⟩,
      ⟨(some 14), .mv (.t 0), (some (13, true)), []⟩,
      ⟨(some 15), .mv (.t 3), (some (13, true)), []⟩,
      ⟨(some 16), .bin .plain .mul (.k (.int .i64 8)) (.t 15), (some (13, true)), []⟩,
      ⟨(some 17), .bin .plain .shr (.t 14) (.t 16), (some (13, true)), []⟩,
      ⟨(some 18), .bin .plain .gtr (.t 17) (.k (.int .u64 0)), (some (13, true)), []⟩,
      ⟨(some 19), .pick (.t 13) (.t 18) (.k (.bool false)), none, []⟩])
    (.cond (.t 19)
     .skip
     (.exit 0 i_coder_Number_j0)))
   (.block 1 i_coder_Number_j1
    (.reg [] [
      ⟨(some 20), .mv (.t 3), none, []⟩,
      ⟨(some 21), .bin .plain .add (.t 20) (.k (.int .i64 1)), none, []⟩,
      ⟨(some 3), .mv (.t 21), none, []⟩])))

abbrev s_coder_Number_J0 (t0 t3 : AV) (h : Heap) : St := ⟨[t0, .undef, .undef, t3, .undef, .undef, .undef, .undef, .undef, .undef, .undef, .undef, .undef, .undef, .undef, .undef, .undef, .undef, .undef, .undef, .undef, .undef, .undef, .undef, .undef, .undef, .undef, .undef, .undef, .undef, .undef, .undef, .undef, .undef, .undef, .undef, .undef, .undef, .undef, .undef, .undef, .undef, .undef], h⟩
abbrev s_coder_Number_K1 (t0 t3 t4 t26 t27 : AV) (h : Heap) : St := ⟨[t0, .undef, .undef, t3, t4, .undef, .undef, .undef, .undef, .undef, .undef, .undef, .undef, .undef, .undef, .undef, .undef, .undef, .undef, .undef, .undef, .undef, .undef, .undef, .undef, .undef, t26, t27, .undef, .undef, .undef, .undef, .undef, .undef, .undef, .undef, .undef, .undef, .undef, .undef, .undef, .undef, .undef], h⟩
def i_coder_Number_b1 : IR :=
  (.seq
   (.reg [] [
     ⟨(some 28), .bin .plain .lss (.t 27) (.t 26), none, []⟩])
   (.seq
    (.cond (.t 28)
     .skip
     (.exit 2 i_coder_Number_j2))
    (.seq
     (.block 3 i_coder_Number_j3
      (.seq
       (.reg [] [
         ⟨(some 29), .mv (.t 27), none, []⟩,
         ⟨(some 5), .mv (.t 29), none, []⟩])
       (.reg [] [
         ⟨(some 30), .mv (.t 4), none, []⟩,
         ⟨(some 31), .mv (.t 0), none, []⟩,
         ⟨(some 32), .mv (.t 3), none, []⟩,
         ⟨(some 33), .bin .plain .sub (.t 32) (.k (.int .i64 1)), none, []⟩,
         ⟨(some 34), .mv (.t 5), none, []⟩,
         ⟨(some 35), .bin .plain .sub (.t 33) (.t 34), none, []⟩,
         ⟨(some 36), .bin .plain .mul (.k (.int .i64 8)) (.t 35), none, []⟩,
         ⟨(some 37), .bin .plain .shr (.t 31) (.t 36), none, []⟩,
         ⟨(some 38), .conv .u8 (.t 37), none, []⟩,
         ⟨(some 39), .litd 1 1 [(.int .u8 0)] [(0, (.t 38))], none, []⟩,
         ⟨(some 40), .app 0 ty_uint8 1 1 (.t 30) (.t 39), none, []⟩,
         ⟨(some 4), .mv (.t 40), none, []⟩])))
     (.reg [] [
       ⟨(some 41), .bin .plain .add (.t 27) (.k (.int .i64 1)), none, []⟩,
       ⟨(some 27), .mv (.t 41), none, []⟩]))))

abbrev s_coder_Number_J2 (t4 : AV) (h : Heap) : St := ⟨[.undef, .undef, .undef, .undef, t4, .undef, .undef, .undef, .undef, .undef, .undef, .undef, .undef, .undef, .undef, .undef, .undef, .undef, .undef, .undef, .undef, .undef, .undef, .undef, .undef, .undef, .undef, .undef, .undef, .undef, .undef, .undef, .undef, .undef, .undef, .undef, .undef, .undef, .undef, .undef, .undef, .undef, .undef], h⟩
/-- heartwood/coder.Number -/
def i_coder_Number : Ev.Fn := ⟨1, 43, 1,
  (.seq
   (.reg [] [
     ⟨(some 2), .mv (.k (.slice none 0 0)), none, []⟩])
   (.seq
    (.seq
     (.reg [] [
       ⟨(some 6), .mv (.t 0), none, []⟩,
       ⟨(some 7), .bin .plain .leq (.t 6) (.k (.int .u64 247)), none, []⟩])
     (.cond (.t 7)
      (.seq
       (.reg [] [
         ⟨(some 8), .mv (.t 0), none, []⟩,
         ⟨(some 9), .conv .u8 (.t 8), none, []⟩,
         ⟨(some 10), .lit 0 ty_uint8 1 1 [(.int .u8 0)] [(0, (.t 9))], none, []⟩,
         ⟨(some 2), .mv (.t 10), none, []⟩])
       (.ret i_coder_Number_r))
      .skip))
    (.seq
     (.reg [] [
       ⟨(some 3), .mv (.k (.int .i64 1)), none, []⟩])
     (.seq
      (.block 0 i_coder_Number_j0
       (.loop i_coder_Number_k0 i_coder_Number_b0))
      (.seq
       (.reg [] [
         ⟨(some 22), .mv (.t 3), none, []⟩,
         ⟨(some 23), .bin .plain .add (.k (.int .i64 247)) (.t 22), none, []⟩,
         ⟨(some 24), .conv .u8 (.t 23), none, []⟩,
         ⟨(some 25), .lit 0 ty_uint8 1 1 [(.int .u8 0)] [(0, (.t 24))], none, []⟩,
         ⟨(some 4), .mv (.t 25), none, []⟩])
       (.seq
        (.seq
         (.reg [] [
           ⟨(some 26), .mv (.t 3), none, []⟩,
           ⟨(some 27), .mv (.k (.int .i64 0)), none, []⟩])
         (.block 2 i_coder_Number_j2
          (.loop i_coder_Number_k1 i_coder_Number_b1)))
        (.seq
         (.reg [] [
           ⟨(some 42), .mv (.t 4), none, []⟩,
           ⟨(some 2), .mv (.t 42), none, []⟩])
         (.ret i_coder_Number_r)))))))),
  [.tmp 2], [true], false, []⟩

def i_code_Read_r : List Bool := [false, false, true, true, false, false, false, false, false, false, false, false, false, false, false, false, false, false, false, false, false, false, false, false, false, false, false, false, false, false, false]
def i_code_Read_j0 : List Bool := [false, false, true, false, false, false, false, true, false, false, false, false, false, false, false, false, false, false, false, false, false, false, false, false, false, false, false, false, false, false, false]
/-- heartwood/code.Read -/
def i_code_Read : Ev.Fn := ⟨1, 31, 6,
  (.seq
   (.reg [] [
     ⟨(some 2), .new 0 [(.int .i64 0), (.slice none 0 0), (.slice none 0 0), (.slice none 0 0), (.slice none 0 0)], none, []⟩,
     ⟨(some 3), .mv (.k .nilIface), none, []⟩])
   (.seq
    (.reg [] [
      ⟨(some 9), .cn (.t 0), none, []⟩,
      ⟨(some 10), .qcall n_coder_NewReader [(.t 9)] [1], none, []⟩,
      ⟨(some 4), .new 2 [(.pointer none)], none, []⟩,
      ⟨none, .store 1 (.t 4) (.t 10), none, []⟩])
    (.seq
     (.reg [] [
       ⟨(some 5), .new 3 [(.bool false)], none, []⟩,
       ⟨none, .store 1 (.t 5) (.k (.bool false)), none, []⟩])
     (.seq
      (.reg [] [
        ⟨(some 6), .new 4 [.nilFunc], none, []⟩])
      (.seq
       (.reg [] [
         ⟨(some 11), .mkf n_code_Read_1 [(.t 4), (.t 5), (.t 6)], none, []⟩,
         ⟨none, .store 1 (.t 6) (.t 11), none, []⟩])
       (.seq
        (.reg [] [
          ⟨(some 12), .load false 1 (.t 6), none, []⟩,
          ⟨(some 13), .callv (.t 12) [(.k (.int .i64 64))] [], none, []⟩,
          ⟨(some 7), .new 5 [(.int .i64 0), (.slice none 0 0), (.slice none 0 0), (.slice none 0 0), (.slice none 0 0)], none, []⟩,
          ⟨none, .store 5 (.t 7) (.t 13), none, []⟩])
        (.seq
         (.reg [] [
           ⟨(some 14), .load false 1 (.t 4), none, []⟩,
           ⟨(some 15), .call n_coder_Reader_End [(.t 14)] [], none, []⟩,
           ⟨(some 8), .mv (.t 15), none, []⟩])
         (.seq
          (.block 0 i_code_Read_j0
           (.seq
            (.reg [] [
              ⟨(some 17), .load false 1 (.t 5), none, []⟩,
              ⟨(some 18), .mv (.t 17), none, []⟩,
              ⟨(some 19), .mv (.t 8), (some (18, false)), []⟩,
              ⟨(some 20), .mki ty_api_Code (.k (.int .i64 3)), (some (18, false)), []⟩,
              ⟨(some 21), .bin (.iface ty_api_Code false) .eql (.t 19) (.t 20), (some (18, false)), []⟩,
              ⟨(some 22), .pick (.t 18) (.k (.bool true)) (.t 21), none, []⟩,
              ⟨(some 16), .mv (.t 22), none, []⟩])
            (.cond (.t 16)
             (.seq
              (.reg [] [
                ⟨(some 23), .build [(.int .i64 0), (.slice none 0 0), (.slice none 0 0), (.slice none 0 0), (.slice none 0 0)] [], none, []⟩,
                ⟨(some 24), .mki ty_api_Code (.k (.int .i64 3)), none, []⟩,
                ⟨none, .store 5 (.t 2) (.t 23), none, []⟩,
                ⟨(some 3), .mv (.t 24), none, []⟩])
              (.ret i_code_Read_r))
             (.seq
              (.reg [] [
                ⟨(some 26), .mv (.t 8), none, []⟩,
                ⟨(some 27), .bin (.iface ty_api_Code true) .neq (.t 26) (.k .nilIface), none, []⟩,
                ⟨(some 25), .mv (.t 27), none, []⟩])
              (.cond (.t 25)
               (.seq
                (.reg [] [
                  ⟨(some 28), .build [(.int .i64 0), (.slice none 0 0), (.slice none 0 0), (.slice none 0 0), (.slice none 0 0)] [], none, []⟩,
                  ⟨(some 29), .mv (.t 8), none, []⟩,
                  ⟨none, .store 5 (.t 2) (.t 28), none, []⟩,
                  ⟨(some 3), .mv (.t 29), none, []⟩])
                (.ret i_code_Read_r))
               .skip)))))
          (.seq
           (.reg [] [
             ⟨(some 30), .load true 5 (.t 7), none, []⟩,
             ⟨none, .store 5 (.t 2) (.t 30), none, []⟩,
             ⟨(some 3), .mv (.k .nilIface), none, []⟩])
           (.ret i_code_Read_r)))))))))),
  [.cell 2 true 5, .tmp 3], [], false, []⟩

def i_coder_NewReader_r : List Bool := [false, false, true, false, false, false, false]
/-- heartwood/coder.NewReader -/
def i_coder_NewReader : Ev.Fn := ⟨1, 7, 1,
  (.seq
   (.reg [] [
     ⟨(some 2), .mv (.k (.pointer none)), none, []⟩])
   (.seq
    (.reg [] [
      ⟨(some 3), .cn (.t 0), none, []⟩,
      ⟨(some 4), .qcall n_slices_Clone_sl_byte_byte [(.t 3)] [], none, []⟩,
      ⟨(some 5), .build [(.slice none 0 0), (.bool false)] [(0, 1, (.t 4))], none, []⟩,
      ⟨(some 6), .box 0 2 (.t 5), none, []⟩,
      ⟨(some 2), .mv (.t 6), none, []⟩])
    (.ret i_coder_NewReader_r))),
  [.tmp 2], [], false, []⟩

def i_code_Read_1_r : List Bool := [false, false, false, false, false, true, false, false, false, false, false, false, false, false, false, false, false, false, false, false, false, false, false, false, false, false, false, false, false, false, false, false, false, false, false, false, false, false, false, false, false, false, false, false, false, false, false, false, false, false, false, false, false, false, false, false, false, false, false, false, false, false, false, false]
def i_code_Read_1_j0 : List Bool := [true, true, true, true, false, true, true, false, false, false, false, false, false, false, false, false, false, false, false, false, false, false, false, false, false, false, false, false, false, false, false, false, false, false, false, false, false, false, false, false, false, false, false, false, false, false, false, false, false, false, false, false, false, false, false, false, false, false, false, false, false, false, false, false]
/-- heartwood/code.Read$1 -/
def i_code_Read_1 : Ev.Fn := ⟨4, 64, 3,
  (.seq
   (.reg [] [
     ⟨(some 5), .new 0 [(.int .i64 0), (.slice none 0 0), (.slice none 0 0), (.slice none 0 0), (.slice none 0 0)], none, []⟩])
   (.seq
    (.reg [] [
      ⟨(some 8), .load false 1 (.t 1), none, []⟩,
      ⟨(some 9), .call n_coder_Reader_Byte [(.t 8)] [], none, []⟩,
      ⟨(some 10), .conv .i64 (.t 9), none, []⟩,
      ⟨(some 11), .build [(.int .i64 0), (.slice none 0 0), (.slice none 0 0), (.slice none 0 0), (.slice none 0 0)] [(0, 1, (.t 10))], none, []⟩,
      ⟨(some 6), .new 1 [(.int .i64 0), (.slice none 0 0), (.slice none 0 0), (.slice none 0 0), (.slice none 0 0)], none, []⟩,
      ⟨none, .store 5 (.t 6) (.t 11), none, []⟩])
    (.seq
     (.seq
      (.reg [] [
        ⟨(some 12), .fa 0 (.t 6), none, []⟩,
        ⟨(some 13), .load false 1 (.t 12), none, []⟩])
      (.block 0 i_code_Read_1_j0
       (.seq
        (.reg [] [
          ⟨(some 16), .bin .plain .eql (.t 13) (.k (.int .i64 0)), none, []⟩,
          ⟨(some 15), .mv (.t 16), none, []⟩])
        (.cond (.t 15)
         (.seq
          (.reg [] [
            ⟨(some 17), .load true 5 (.t 6), none, []⟩,
            ⟨none, .store 5 (.t 5) (.t 17), none, []⟩])
          (.ret i_code_Read_1_r))
         (.seq
          (.reg [] [
            ⟨(some 19), .bin .plain .eql (.t 13) (.k (.int .i64 3)), none, []⟩,
            ⟨(some 18), .mv (.t 19), none, []⟩])
          (.cond (.t 18)
           (.seq
            (.reg [] [
              ⟨(some 20), .load false 1 (.t 1), none, []⟩,
              ⟨(some 21), .call n_coder_Reader_Bytes [(.t 20), (.k (.int .i64 32))] [], none, []⟩,
              ⟨(some 22), .fa 3 (.t 6), none, []⟩,
              ⟨none, .store 1 (.t 22) (.t 21), none, []⟩])
            (.seq
             (.reg [] [
               ⟨(some 23), .load true 5 (.t 6), none, []⟩,
               ⟨none, .store 5 (.t 5) (.t 23), none, []⟩])
             (.ret i_code_Read_1_r)))
           (.seq
            (.reg [] [
              ⟨(some 25), .bin .plain .eql (.t 13) (.k (.int .i64 1)), none, []⟩,
              ⟨(some 24), .mv (.t 25), none, []⟩])
            (.cond (.t 24)
             (.reg [(1, 2)] [
               ⟨(some 26), .load false 1 (.t 1), none, []⟩,
               ⟨(some 27), .call n_coder_Reader_Bytes [(.t 26), (.k (.int .i64 80))] [], none, []⟩,
               ⟨(some 28), .load false 1 (.t 1), none, []⟩,
               ⟨(some 29), .call n_coder_Reader_Bytes [(.t 28), (.k (.int .i64 1024))] [], none, []⟩,
               ⟨(some 30), .fa 1 (.t 6), none, []⟩,
               ⟨none, .store 1 (.t 30) (.t 27), none, []⟩,
               ⟨(some 31), .fa 2 (.t 6), none, []⟩,
               ⟨none, .store 1 (.t 31) (.t 29), none, []⟩])
             (.seq
              (.reg [] [
                ⟨(some 33), .bin .plain .eql (.t 13) (.k (.int .i64 2)), none, []⟩,
                ⟨(some 32), .mv (.t 33), none, []⟩])
              (.cond (.t 32)
               (.reg [(1, 2)] [
                 ⟨(some 34), .load false 1 (.t 1), none, []⟩,
                 ⟨(some 35), .call n_coder_Reader_Bytes [(.t 34), (.k (.int .i64 80))] [], none, []⟩,
                 ⟨(some 36), .load false 1 (.t 1), none, []⟩,
                 ⟨(some 37), .call n_coder_Reader_Bytes [(.t 36), (.k (.int .i64 32))] [], none, []⟩,
                 ⟨(some 38), .fa 1 (.t 6), none, []⟩,
                 ⟨none, .store 1 (.t 38) (.t 35), none, []⟩,
                 ⟨(some 39), .fa 3 (.t 6), none, []⟩,
                 ⟨none, .store 1 (.t 39) (.t 37), none, []⟩])
               (.seq
                (.reg [] [
                  ⟨none, .store 1 (.t 2) (.k (.bool true)), none, []⟩])
                (.seq
                 (.reg [] [
                   ⟨(some 14), .load true 5 (.t 6), none, []⟩,
                   ⟨none, .store 5 (.t 5) (.t 14), none, []⟩])
                 (.ret i_code_Read_1_r)))))))))))))
     (.seq
      (.seq
       (.reg [] [
         ⟨(some 40), .mv (.t 0), none, []⟩,
         ⟨(some 41), .bin .plain .eql (.t 40) (.k (.int .i64 0)), none, []⟩,
         ⟨(some 42), .mv (.t 41), none, []⟩,
         ⟨(some 43), .load false 1 (.t 1), (some (42, false)), []⟩,
         ⟨(some 44), .call n_coder_Reader_End [(.t 43)] [], (some (42, false)), []⟩,
         ⟨(some 45), .mki ty_api_Code (.k (.int .i64 3)), (some (42, false)), []⟩,
         ⟨(some 46), .bin (.iface ty_api_Code false) .eql (.t 44) (.t 45), (some (42, false)), []⟩,
         ⟨(some 47), .pick (.t 42) (.k (.bool true)) (.t 46), none, []⟩,
         ⟨(some 48), .mv (.t 47), none, []⟩,
         ⟨(some 49), .load false 1 (.t 2), (some (48, false)), []⟩,
         ⟨(some 50), .pick (.t 48) (.k (.bool true)) (.t 49), none, []⟩])
       (.cond (.t 50)
        (.seq
         (.reg [] [
           ⟨none, .store 1 (.t 2) (.k (.bool true)), none, []⟩])
         (.seq
          (.reg [] [
            ⟨(some 51), .load true 5 (.t 6), none, []⟩,
            ⟨none, .store 5 (.t 5) (.t 51), none, []⟩])
          (.ret i_code_Read_1_r)))
        .skip))
      (.seq
       (.reg [] [
         ⟨(some 52), .load false 1 (.t 3), none, []⟩,
         ⟨(some 53), .mv (.t 0), none, []⟩,
         ⟨(some 54), .bin .plain .sub (.t 53) (.k (.int .i64 1)), none, []⟩,
         ⟨(some 55), .callv (.t 52) [(.t 54)] [], none, []⟩,
         ⟨(some 7), .new 2 [(.int .i64 0), (.slice none 0 0), (.slice none 0 0), (.slice none 0 0), (.slice none 0 0)], none, []⟩,
         ⟨none, .store 5 (.t 7) (.t 55), none, []⟩])
       (.seq
        (.reg [(0, 4)] [
          ⟨(some 56), .load true 5 (.t 7), none, []⟩,
          ⟨(some 57), .load false 1 (.t 3), none, []⟩,
          ⟨(some 58), .mv (.t 0), none, []⟩,
          ⟨(some 59), .bin .plain .sub (.t 58) (.k (.int .i64 1)), none, []⟩,
          ⟨(some 60), .callv (.t 57) [(.t 59)] [], none, []⟩,
          ⟨(some 61), .litd 5 2 [(.int .i64 0), (.slice none 0 0), (.slice none 0 0), (.slice none 0 0), (.slice none 0 0)] [(0, (.t 56)), (1, (.t 60))], none, [56]⟩,
          ⟨(some 62), .fa 4 (.t 6), none, []⟩,
          ⟨none, .store 1 (.t 62) (.t 61), none, []⟩])
        (.seq
         (.reg [] [
           ⟨(some 63), .load true 5 (.t 6), none, []⟩,
           ⟨none, .store 5 (.t 5) (.t 63), none, []⟩])
         (.ret i_code_Read_1_r)))))))),
  [.cell 5 true 5], [], false, []⟩

def i_coder_Reader_Byte_r : List Bool := [false, false, true, false, false, false, false, false, false, false, false, false]
/-- (*heartwood/coder.Reader).Byte -/
def i_coder_Reader_Byte : Ev.Fn := ⟨1, 12, 0,
  (.seq
   (.reg [] [
     ⟨(some 2), .mv (.k (.int .u8 0)), none, []⟩])
   (.seq
    (.reg [] [
      ⟨(some 4), .mv (.t 0), none, []⟩,
      ⟨(some 5), .call n_coder_Reader_take [(.t 4), (.k (.int .i64 1))] [], none, []⟩,
      ⟨(some 3), .cn (.t 5), none, []⟩])
    (.seq
     (.seq
      (.reg [] [
        ⟨(some 6), .cn (.t 3), none, []⟩,
        ⟨(some 7), .len false (.t 6), none, []⟩,
        ⟨(some 8), .bin .plain .eql (.t 7) (.k (.int .i64 0)), none, []⟩])
      (.cond (.t 8)
       (.seq
        (.reg [] [
          ⟨(some 2), .mv (.k (.int .u8 0)), none, []⟩])
        (.ret i_coder_Reader_Byte_r))
       .skip))
     (.seq
      (.reg [] [
        ⟨(some 9), .cn (.t 3), none, []⟩,
        ⟨(some 10), .ia 1 (.t 9) (.k (.int .i64 0)), none, []⟩,
        ⟨(some 11), .load false 1 (.t 10), none, []⟩,
        ⟨(some 2), .mv (.t 11), none, []⟩])
      (.ret i_coder_Reader_Byte_r))))),
  [.tmp 2], [], false, []⟩

def i_coder_Reader_take_r : List Bool := [false, false, false, false, true, false, false, false, false, false, false, false, false, false, false, false, false, false, false, false, false, false, false, false, false, false, false, false, false, false, false, false, false, false, false, false, false, false, false]
/-- (*heartwood/coder.Reader).take -/
def i_coder_Reader_take : Ev.Fn := ⟨2, 39, 0,
  (.seq
   (.reg [] [
     ⟨(some 4), .cn (.k (.slice none 0 0)), none, []⟩])
   (.seq
    (.seq
     (.reg [] [
       ⟨(some 6), .mv (.t 0), none, []⟩,
       ⟨(some 7), .nilc (.t 6), none, []⟩,
       ⟨(some 8), .fa 1 (.t 7), none, []⟩,
       ⟨(some 9), .load false 1 (.t 8), none, []⟩,
       ⟨(some 10), .mv (.t 9), none, []⟩,
       ⟨(some 11), .mv (.t 1), (some (10, false)), []⟩,
       ⟨(some 12), .mv (.t 0), (some (10, false)), []⟩,
       ⟨(some 13), .nilc (.t 12), (some (10, false)), []⟩,
       ⟨(some 14), .fa 0 (.t 13), (some (10, false)), []⟩,
       ⟨(some 15), .load false 1 (.t 14), (some (10, false)), []⟩,
       ⟨(some 16), .len false (.t 15), (some (10, false)), []⟩,
       ⟨(some 17), .bin .plain .gtr (.t 11) (.t 16), (some (10, false)), []⟩,
       ⟨(some 18), .pick (.t 10) (.k (.bool true)) (.t 17), none, []⟩])
     (.cond (.t 18)
      (.seq
       (.reg [] [
         ⟨(some 19), .mv (.t 0), none, []⟩,
         ⟨(some 20), .nilc (.t 19), none, []⟩,
         ⟨(some 21), .fa 1 (.t 20), none, []⟩,
         ⟨none, .store 1 (.t 21) (.k (.bool true)), none, []⟩])
       (.seq
        (.reg [] [
          ⟨(some 4), .cn (.k (.slice none 0 0)), none, []⟩])
        (.ret i_coder_Reader_take_r)))
      .skip))
    (.seq
     (.reg [] [
       ⟨(some 22), .mv (.t 0), none, []⟩,
       ⟨(some 23), .nilc (.t 22), none, []⟩,
       ⟨(some 24), .fa 0 (.t 23), none, []⟩,
       ⟨(some 25), .load false 1 (.t 24), none, []⟩,
       ⟨(some 26), .mv (.t 1), none, []⟩,
       ⟨(some 27), .mv (.t 1), none, []⟩,
       ⟨(some 28), .slice 1 (.t 25) none (some (.t 26)) (some (.t 27)), none, [25]⟩,
       ⟨(some 5), .cn (.t 28), none, []⟩])
     (.seq
      (.reg [] [
        ⟨(some 29), .mv (.t 0), none, []⟩,
        ⟨(some 30), .mv (.t 0), none, []⟩,
        ⟨(some 31), .nilc (.t 30), none, []⟩,
        ⟨(some 32), .fa 0 (.t 31), none, []⟩,
        ⟨(some 33), .load false 1 (.t 32), none, []⟩,
        ⟨(some 34), .mv (.t 1), none, []⟩,
        ⟨(some 35), .slice 1 (.t 33) (some (.t 34)) none none, none, [33]⟩,
        ⟨(some 36), .nilc (.t 29), none, []⟩,
        ⟨(some 37), .fa 0 (.t 36), none, []⟩,
        ⟨none, .store 1 (.t 37) (.t 35), none, []⟩])
      (.seq
       (.reg [] [
         ⟨(some 38), .cn (.t 5), none, []⟩,
         ⟨(some 4), .cn (.t 38), none, []⟩])
       (.ret i_coder_Reader_take_r)))))),
  [.tmp 4], [], false, []⟩

def i_coder_Reader_Bytes_r : List Bool := [false, false, false, false, true, false, false, false, false, false, false, false, false, false, false, false, false, false, false, false, false, false, false, false, false, false, false, false, false, false, false, false, false, false, false, false, false, false, false]
/-- (*heartwood/coder.Reader).Bytes -/
def i_coder_Reader_Bytes : Ev.Fn := ⟨2, 39, 0,
  (.seq
   (.reg [] [
     ⟨(some 4), .cn (.k (.slice none 0 0)), none, []⟩])
   (.seq
    (.reg [] [
      ⟨(some 6), .mv (.t 0), none, []⟩,
      ⟨(some 7), .call n_coder_Reader_Number [(.t 6)] [], none, []⟩,
      ⟨(some 5), .mv (.t 7), none, []⟩])
    (.seq
     (.seq
      (.reg [] [
        ⟨(some 8), .mv (.t 0), none, []⟩,
        ⟨(some 9), .nilc (.t 8), none, []⟩,
        ⟨(some 10), .fa 1 (.t 9), none, []⟩,
        ⟨(some 11), .load false 1 (.t 10), none, []⟩,
        ⟨(some 12), .mv (.t 11), none, []⟩,
        ⟨(some 13), .mv (.t 1), (some (12, false)), []⟩,
        ⟨(some 14), .bin .plain .lss (.t 13) (.k (.int .i64 0)), (some (12, false)), []⟩,
        ⟨(some 15), .pick (.t 12) (.k (.bool true)) (.t 14), none, []⟩,
        ⟨(some 16), .mv (.t 15), none, []⟩,
        ⟨(some 17), .mv (.t 5), (some (16, false)), []⟩,
        ⟨(some 18), .mv (.t 1), (some (16, false)), []⟩,
        ⟨(some 19), .conv .u64 (.t 18), (some (16, false)), []⟩,
        ⟨(some 20), .bin .plain .gtr (.t 17) (.t 19), (some (16, false)), []⟩,
        ⟨(some 21), .pick (.t 16) (.k (.bool true)) (.t 20), none, []⟩,
        ⟨(some 22), .mv (.t 21), none, []⟩,
        ⟨(some 23), .mv (.t 5), (some (22, false)), []⟩,
        ⟨(some 24), .mv (.t 0), (some (22, false)), []⟩,
        ⟨(some 25), .nilc (.t 24), (some (22, false)), []⟩,
        ⟨(some 26), .fa 0 (.t 25), (some (22, false)), []⟩,
        ⟨(some 27), .load false 1 (.t 26), (some (22, false)), []⟩,
        ⟨(some 28), .len false (.t 27), (some (22, false)), []⟩,
        ⟨(some 29), .conv .u64 (.t 28), (some (22, false)), []⟩,
        ⟨(some 30), .bin .plain .gtr (.t 23) (.t 29), (some (22, false)), []⟩,
        ⟨(some 31), .pick (.t 22) (.k (.bool true)) (.t 30), none, []⟩])
      (.cond (.t 31)
       (.seq
        (.reg [] [
          ⟨(some 32), .mv (.t 0), none, []⟩,
          ⟨(some 33), .nilc (.t 32), none, []⟩,
          ⟨(some 34), .fa 1 (.t 33), none, []⟩,
          ⟨none, .store 1 (.t 34) (.k (.bool true)), none, []⟩])
        (.seq
         (.reg [] [
           ⟨(some 4), .cn (.k (.slice none 0 0)), none, []⟩])
         (.ret i_coder_Reader_Bytes_r)))
       .skip))
     (.seq
      (.reg [] [
        ⟨(some 35), .mv (.t 0), none, []⟩,
        ⟨(some 36), .mv (.t 5), none, []⟩,
        ⟨(some 37), .conv .i64 (.t 36), none, []⟩,
        ⟨(some 38), .call n_coder_Reader_take [(.t 35), (.t 37)] [], none, []⟩,
        ⟨(some 4), .cn (.t 38), none, []⟩])
      (.ret i_coder_Reader_Bytes_r))))),
  [.tmp 4], [], false, []⟩

def i_coder_Reader_Number_r : List Bool := [false, false, true, false, false, false, false, false, false, false, false, false, false, false, false, false, false, false, false, false, false, false, false, false, false, false, false, false, false, false, false, false, false, false, false, false, false, false, false, false, false, false, false, false, false, false, false, false]
def i_coder_Reader_Number_j1 : List Bool := [true, false, false, false, true, true, false, false, false, false, false, false, false, false, false, false, false, false, false, true, true, true, false, false, false, false, false, false, false, false, false, false, false, false, false, false, false, false, false, false, false, false, false, false, false, false, false, false]
def i_coder_Reader_Number_k0 : List Bool := [true, false, false, false, true, true, false, false, false, false, false, false, false, false, false, false, false, false, false, true, true, true, false, false, false, false, false, false, false, false, false, false, false, false, false, false, false, false, false, false, false, false, false, false, false, false, false, false]
def i_coder_Reader_Number_j0 : List Bool := [true, false, false, false, true, true, false, false, false, false, false, false, false, false, false, false, false, false, false, false, false, false, false, false, false, false, false, false, false, false, false, false, false, false, false, false, false, false, false, false, false, false, false, false, false, false, false, false]
abbrev s_coder_Reader_Number_R (t2 : AV) (h : Heap) : St := ⟨[.undef, .undef, t2, .undef, .undef, .undef, .undef, .undef, .undef, .undef, .undef, .undef, .undef, .undef, .undef, .undef, .undef, .undef, .undef, .undef, .undef, .undef, .undef, .undef, .undef, .undef, .undef, .undef, .undef, .undef, .undef, .undef, .undef, .undef, .undef, .undef, .undef, .undef, .undef, .undef, .undef, .undef, .undef, .undef, .undef, .undef, .undef, .undef], h⟩
abbrev s_coder_Reader_Number_K0 (t0 t4 t5 t19 t20 t21 : AV) (h : Heap) : St := ⟨[t0, .undef, .undef, .undef, t4, t5, .undef, .undef, .undef, .undef, .undef, .undef, .undef, .undef, .undef, .undef, .undef, .undef, .undef, t19, t20, t21, .undef, .undef, .undef, .undef, .undef, .undef, .undef, .undef, .undef, .undef, .undef, .undef, .undef, .undef, .undef, .undef, .undef, .undef, .undef, .undef, .undef, .undef, .undef, .undef, .undef, .undef], h⟩
def i_coder_Reader_Number_b0 : IR :=
  (.seq
   (.reg [] [
     ⟨(some 22), .bin .plain .lss (.t 21) (.t 20), none, []⟩])
   (.seq
    (.cond (.t 22)
     .skip
     (.exit 0 i_coder_Reader_Number_j0))
    (.seq
     (.block 1 i_coder_Reader_Number_j1
      (.seq
       (.reg [] [
         ⟨(some 23), .ia 1 (.t 19) (.t 21), none, []⟩,
         ⟨(some 24), .load false 1 (.t 23), none, []⟩,
         ⟨(some 7), .mv (.t 24), none, []⟩])
       (.reg [] [
         ⟨(some 25), .mv (.t 5), none, []⟩,
         ⟨(some 26), .bin .plain .shl (.t 25) (.k (.int .u64 8)), none, []⟩,
         ⟨(some 27), .mv (.t 7), none, []⟩,
         ⟨(some 28), .conv .u64 (.t 27), none, []⟩,
         ⟨(some 29), .bin .plain .or (.t 26) (.t 28), none, []⟩,
         ⟨(some 5), .mv (.t 29), none, []⟩])))
     (.reg [] [
       ⟨(some 30), .bin .plain .add (.t 21) (.k (.int .i64 1)), none, []⟩,
       ⟨(some 21), .mv (.t 30), none, []⟩]))))

abbrev s_coder_Reader_Number_J0 (t0 t4 t5 : AV) (h : Heap) : St := ⟨[t0, .undef, .undef, .undef, t4, t5, .undef, .undef, .undef, .undef, .undef, .undef, .undef, .undef, .undef, .undef, .undef, .undef, .undef, .undef, .undef, .undef, .undef, .undef, .undef, .undef, .undef, .undef, .undef, .undef, .undef, .undef, .undef, .undef, .undef, .undef, .undef, .undef, .undef, .undef, .undef, .undef, .undef, .undef, .undef, .undef, .undef, .undef], h⟩
/-- (*heartwood/coder.Reader).Number -/
def i_coder_Reader_Number : Ev.Fn := ⟨1, 48, 0,
  (.seq
   (.reg [] [
     ⟨(some 2), .mv (.k (.int .u64 0)), none, []⟩])
   (.seq
    (.reg [] [
      ⟨(some 8), .mv (.t 0), none, []⟩,
      ⟨(some 9), .call n_coder_Reader_Byte [(.t 8)] [], none, []⟩,
      ⟨(some 3), .mv (.t 9), none, []⟩])
    (.seq
     (.seq
      (.reg [] [
        ⟨(some 10), .mv (.t 3), none, []⟩,
        ⟨(some 11), .bin .plain .leq (.t 10) (.k (.int .u8 247)), none, []⟩])
      (.cond (.t 11)
       (.seq
        (.reg [] [
          ⟨(some 12), .mv (.t 3), none, []⟩,
          ⟨(some 13), .conv .u64 (.t 12), none, []⟩,
          ⟨(some 2), .mv (.t 13), none, []⟩])
        (.ret i_coder_Reader_Number_r))
       .skip))
     (.seq
      (.reg [] [
        ⟨(some 14), .mv (.t 0), none, []⟩,
        ⟨(some 15), .mv (.t 3), none, []⟩,
        ⟨(some 16), .conv .i64 (.t 15), none, []⟩,
        ⟨(some 17), .bin .plain .sub (.t 16) (.k (.int .i64 247)), none, []⟩,
        ⟨(some 18), .call n_coder_Reader_take [(.t 14), (.t 17)] [], none, []⟩,
        ⟨(some 4), .cn (.t 18), none, []⟩])
      (.seq
       (.reg [] [
         ⟨(some 5), .mv (.k (.int .u64 0)), none, []⟩])
       (.seq
        (.seq
         (.reg [] [
           ⟨(some 19), .cn (.t 4), none, []⟩,
           ⟨(some 20), .len false (.t 19), none, []⟩,
           ⟨(some 21), .mv (.k (.int .i64 0)), none, []⟩])
         (.block 0 i_coder_Reader_Number_j0
          (.loop i_coder_Reader_Number_k0 i_coder_Reader_Number_b0)))
        (.seq
         (.seq
          (.reg [] [
            ⟨(some 31), .cn (.t 4), none, []⟩,
            ⟨(some 32), .len false (.t 31), none, []⟩,
            ⟨(some 33), .bin .plain .eql (.t 32) (.k (.int .i64 0)), none, []⟩,
            ⟨(some 34), .mv (.t 33), none, []⟩,
            ⟨(some 35), .cn (.t 4), (some (34, false)), []⟩,
            ⟨(some 36), .ia 1 (.t 35) (.k (.int .i64 0)), (some (34, false)), []⟩,
            ⟨(some 37), .load false 1 (.t 36), (some (34, false)), []⟩,
            ⟨(some 38), .bin .plain .eql (.t 37) (.k (.int .u8 0)), (some (34, false)), []⟩,
            ⟨(some 39), .pick (.t 34) (.k (.bool true)) (.t 38), none, []⟩,
            ⟨(some 40), .mv (.t 39), none, []⟩,
            ⟨(some 41), .mv (.t 5), (some (40, false)), []⟩,
            ⟨(some 42), .bin .plain .leq (.t 41) (.k (.int .u64 247)), (some (40, false)), []⟩,
            ⟨(some 43), .pick (.t 40) (.k (.bool true)) (.t 42), none, []⟩])
          (.cond (.t 43)
           (.seq
            (.reg [] [
              ⟨(some 44), .mv (.t 0), none, []⟩,
              ⟨(some 45), .nilc (.t 44), none, []⟩,
              ⟨(some 46), .fa 1 (.t 45), none, []⟩,
              ⟨none, .store 1 (.t 46) (.k (.bool true)), none, []⟩])
            (.seq
             (.reg [] [
               ⟨(some 2), .mv (.k (.int .u64 0)), none, []⟩])
             (.ret i_coder_Reader_Number_r)))
           .skip))
         (.seq
          (.reg [] [
            ⟨(some 47), .mv (.t 5), none, []⟩,
            ⟨(some 2), .mv (.t 47), none, []⟩])
          (.ret i_coder_Reader_Number_r))))))))),
  [.tmp 2], [], false, []⟩

def i_coder_Reader_End_r : List Bool := [false, false, true, false, false, false, false, false, false, false, false, false, false, false, false, false, false]
def i_coder_Reader_End_j0 : List Bool := [false, false, false, false, false, false, false, false, false, false, false, false, false, false, false, false, false]
/-- (*heartwood/coder.Reader).End -/
def i_coder_Reader_End : Ev.Fn := ⟨1, 17, 0,
  (.seq
   (.reg [] [
     ⟨(some 2), .mv (.k .nilIface), none, []⟩])
   (.seq
    (.block 0 i_coder_Reader_End_j0
     (.seq
      (.reg [] [
        ⟨(some 4), .mv (.t 0), none, []⟩,
        ⟨(some 5), .nilc (.t 4), none, []⟩,
        ⟨(some 6), .fa 1 (.t 5), none, []⟩,
        ⟨(some 7), .load false 1 (.t 6), none, []⟩,
        ⟨(some 3), .mv (.t 7), none, []⟩])
      (.cond (.t 3)
       (.seq
        (.reg [] [
          ⟨(some 8), .mki ty_api_Code (.k (.int .i64 3)), none, []⟩,
          ⟨(some 2), .mv (.t 8), none, []⟩])
        (.ret i_coder_Reader_End_r))
       (.seq
        (.reg [] [
          ⟨(some 10), .mv (.t 0), none, []⟩,
          ⟨(some 11), .nilc (.t 10), none, []⟩,
          ⟨(some 12), .fa 0 (.t 11), none, []⟩,
          ⟨(some 13), .load false 1 (.t 12), none, []⟩,
          ⟨(some 14), .len false (.t 13), none, []⟩,
          ⟨(some 15), .bin .plain .gtr (.t 14) (.k (.int .i64 0)), none, []⟩,
          ⟨(some 9), .mv (.t 15), none, []⟩])
        (.cond (.t 9)
         (.seq
          (.reg [] [
            ⟨(some 16), .mki ty_api_Code (.k (.int .i64 4)), none, []⟩,
            ⟨(some 2), .mv (.t 16), none, []⟩])
          (.ret i_coder_Reader_End_r))
         .skip)))))
    (.seq
     (.reg [] [
       ⟨(some 2), .mv (.k .nilIface), none, []⟩])
     (.ret i_coder_Reader_End_r)))),
  [.tmp 2], [], false, []⟩

def i_law10_small_r : List Bool := [false, false, true, false, false, false]
/-- heartwood/heartwoodlaw10.small -/
def i_law10_small : Ev.Fn := ⟨1, 6, 1,
  (.seq
   (.reg [] [
     ⟨(some 1), .box 0 5 (.t 0), none, []⟩,
     ⟨(some 2), .mv (.k (.bool false)), none, []⟩])
   (.seq
    (.reg [] [
      ⟨(some 3), .load true 5 (.t 1), none, []⟩,
      ⟨(some 4), .qcall n_ref04_Light [(.t 3), (.k (.int .i64 300)), (.k (.int .i64 200))] [], none, []⟩,
      ⟨(some 5), .bin .plain .geq (.t 4) (.k (.int .i64 0)), none, []⟩,
      ⟨(some 2), .mv (.t 5), none, []⟩])
    (.ret i_law10_small_r))),
  [.tmp 2], [], false, []⟩

def i_ref10_Write_r : List Bool := [false, false, true, true, false, false, false, false, false, false, false, false, false, false, false, false]
/-- heartwood/heartwoodref10.Write -/
def i_ref10_Write : Ev.Fn := ⟨1, 16, 1,
  (.seq
   (.reg [] [
     ⟨(some 1), .box 0 5 (.t 0), none, []⟩,
     ⟨(some 2), .cn (.k (.slice none 0 0)), none, []⟩,
     ⟨(some 3), .mv (.k (.int .i64 0)), none, []⟩])
   (.seq
    (.reg [] [
      ⟨(some 6), .load true 5 (.t 1), none, []⟩,
      ⟨(some 7), .qcall n_ref04_Check [(.t 6)] [], none, []⟩,
      ⟨(some 4), .mv (.t 7), none, []⟩])
    (.seq
     (.seq
      (.reg [] [
        ⟨(some 8), .mv (.t 4), none, []⟩,
        ⟨(some 9), .bin .plain .neq (.t 8) (.k (.int .i64 0)), none, []⟩])
      (.cond (.t 9)
       (.seq
        (.reg [] [
          ⟨(some 10), .mv (.t 4), none, []⟩,
          ⟨(some 2), .cn (.k (.slice none 0 0)), none, []⟩,
          ⟨(some 3), .mv (.t 10), none, []⟩])
        (.ret i_ref10_Write_r))
       .skip))
     (.seq
      (.reg [] [
        ⟨(some 11), .load true 5 (.t 1), none, []⟩,
        ⟨(some 12), .qcall n_ref10_long [(.t 11)] [], none, []⟩,
        ⟨(some 5), .mv (.t 12), none, []⟩])
      (.seq
       (.seq
        (.reg [] [
          ⟨(some 13), .mv (.t 5), none, []⟩])
        (.cond (.t 13)
         (.seq
          (.reg [] [
            ⟨(some 2), .cn (.k (.slice none 0 0)), none, []⟩,
            ⟨(some 3), .mv (.k (.int .i64 2)), none, []⟩])
          (.ret i_ref10_Write_r))
         .skip))
       (.seq
        (.reg [] [
          ⟨(some 14), .load true 5 (.t 1), none, []⟩,
          ⟨(some 15), .qcall n_ref10_bytes [(.t 14)] [], none, []⟩,
          ⟨(some 2), .cn (.t 15), none, []⟩,
          ⟨(some 3), .mv (.k (.int .i64 0)), none, []⟩])
        (.ret i_ref10_Write_r))))))),
  [.tmp 2, .tmp 3], [], false, []⟩

def i_ref10_long_r : List Bool := [false, false, true, false, false, false, false, false, false, false, false, false, false, false, false, false, false, false, false, false, false, false, false]
def i_ref10_long_j1 : List Bool := [false, true, false, true, false, false, false, false, false, false, false, false, false, false, false, false, false, false, false, false, false, false, false]
def i_ref10_long_k0 : List Bool := [false, true, false, true, false, false, false, false, false, false, false, false, false, false, false, false, false, false, false, false, false, false, false]
def i_ref10_long_j0 : List Bool := [false, false, false, false, false, false, false, false, false, false, false, false, false, false, false, false, false, false, false, false, false, false, false]
abbrev s_ref10_long_R (t2 : AV) (h : Heap) : St := ⟨[.undef, .undef, t2, .undef, .undef, .undef, .undef, .undef, .undef, .undef, .undef, .undef, .undef, .undef, .undef, .undef, .undef, .undef, .undef, .undef, .undef, .undef, .undef], h⟩
abbrev s_ref10_long_K0 (t1 t3 : AV) (h : Heap) : St := ⟨[.undef, t1, .undef, t3, .undef, .undef, .undef, .undef, .undef, .undef, .undef, .undef, .undef, .undef, .undef, .undef, .undef, .undef, .undef, .undef, .undef, .undef, .undef], h⟩
def i_ref10_long_b0 : IR :=
  (.seq
   (.seq
    (.reg [] [
      ⟨(some 9), .mv (.t 3), none, []⟩,
      ⟨(some 10), .fa 4 (.t 1), none, []⟩,
      ⟨(some 11), .load false 1 (.t 10), none, []⟩,
      ⟨(some 12), .len false (.t 11), none, []⟩,
      ⟨(some 13), .bin .plain .lss (.t 9) (.t 12), none, []⟩])
    (.cond (.t 13)
     .skip
     (.exit 0 i_ref10_long_j0)))
   (.seq
    (.block 1 i_ref10_long_j1
     (.seq
      (.reg [] [
        ⟨(some 16), .fa 4 (.t 1), none, []⟩,
        ⟨(some 17), .load false 1 (.t 16), none, []⟩,
        ⟨(some 18), .mv (.t 3), none, []⟩,
        ⟨(some 19), .ia 5 (.t 17) (.t 18), none, []⟩,
        ⟨(some 20), .load true 5 (.t 19), none, []⟩,
        ⟨(some 21), .qcall n_ref10_long [(.t 20)] [], none, []⟩,
        ⟨(some 4), .mv (.t 21), none, []⟩])
      (.seq
       (.reg [] [
         ⟨(some 22), .mv (.t 4), none, []⟩])
       (.cond (.t 22)
        (.seq
         (.reg [] [
           ⟨(some 2), .mv (.k (.bool true)), none, []⟩])
         (.ret i_ref10_long_r))
        .skip))))
    (.reg [] [
      ⟨(some 14), .mv (.t 3), none, []⟩,
      ⟨(some 15), .bin .plain .add (.t 14) (.k (.int .i64 1)), none, []⟩,
      ⟨(some 3), .mv (.t 15), none, []⟩])))

abbrev s_ref10_long_J0 (h : Heap) : St := ⟨[.undef, .undef, .undef, .undef, .undef, .undef, .undef, .undef, .undef, .undef, .undef, .undef, .undef, .undef, .undef, .undef, .undef, .undef, .undef, .undef, .undef, .undef, .undef], h⟩
/-- heartwood/heartwoodref10.long -/
def i_ref10_long : Ev.Fn := ⟨1, 23, 1,
  (.seq
   (.reg [] [
     ⟨(some 1), .box 0 5 (.t 0), none, []⟩,
     ⟨(some 2), .mv (.k (.bool false)), none, []⟩])
   (.seq
    (.seq
     (.reg [] [
       ⟨(some 5), .fa 3 (.t 1), none, []⟩,
       ⟨(some 6), .load false 1 (.t 5), none, []⟩,
       ⟨(some 7), .len false (.t 6), none, []⟩,
       ⟨(some 8), .bin .plain .gtr (.t 7) (.k (.int .i64 32)), none, []⟩])
     (.cond (.t 8)
      (.seq
       (.reg [] [
         ⟨(some 2), .mv (.k (.bool true)), none, []⟩])
       (.ret i_ref10_long_r))
      .skip))
    (.seq
     (.seq
      (.reg [] [
        ⟨(some 3), .mv (.k (.int .i64 0)), none, []⟩])
      (.block 0 i_ref10_long_j0
       (.loop i_ref10_long_k0 i_ref10_long_b0)))
     (.seq
      (.reg [] [
        ⟨(some 2), .mv (.k (.bool false)), none, []⟩])
      (.ret i_ref10_long_r))))),
  [.tmp 2], [], false, []⟩

def i_ref10_bytes_r : List Bool := [false, false, true, false, false, false, false, false, false, false, false, false, false, false, false, false, false, false, false, false, false, false, false, false, false, false, false, false, false, false, false, false, false, false, false, false, false, false, false, false, false, false, false, false, false, false, false, false, false, false, false, false, false, false]
def i_ref10_bytes_j1 : List Bool := [false, true, false, true, true, false, false, false, false, false, false, false, false, false, false, false, false, false, false, false, false, false, false, false, false, false, false, false, false, false, false, false, false, false, false, false, false, false, false, false, false, false, false, false, false, false, false, false, false, false, false, false, false, false]
def i_ref10_bytes_k0 : List Bool := [false, true, false, true, true, false, false, false, false, false, false, false, false, false, false, false, false, false, false, false, false, false, false, false, false, false, false, false, false, false, false, false, false, false, false, false, false, false, false, false, false, false, false, false, false, false, false, false, false, false, false, false, false, false]
def i_ref10_bytes_j0 : List Bool := [false, false, false, true, false, false, false, false, false, false, false, false, false, false, false, false, false, false, false, false, false, false, false, false, false, false, false, false, false, false, false, false, false, false, false, false, false, false, false, false, false, false, false, false, false, false, false, false, false, false, false, false, false, false]
abbrev s_ref10_bytes_R (t2 : AV) (h : Heap) : St := ⟨[.undef, .undef, t2, .undef, .undef, .undef, .undef, .undef, .undef, .undef, .undef, .undef, .undef, .undef, .undef, .undef, .undef, .undef, .undef, .undef, .undef, .undef, .undef, .undef, .undef, .undef, .undef, .undef, .undef, .undef, .undef, .undef, .undef, .undef, .undef, .undef, .undef, .undef, .undef, .undef, .undef, .undef, .undef, .undef, .undef, .undef, .undef, .undef, .undef, .undef, .undef, .undef, .undef, .undef], h⟩
abbrev s_ref10_bytes_K0 (t1 t3 t4 : AV) (h : Heap) : St := ⟨[.undef, t1, .undef, t3, t4, .undef, .undef, .undef, .undef, .undef, .undef, .undef, .undef, .undef, .undef, .undef, .undef, .undef, .undef, .undef, .undef, .undef, .undef, .undef, .undef, .undef, .undef, .undef, .undef, .undef, .undef, .undef, .undef, .undef, .undef, .undef, .undef, .undef, .undef, .undef, .undef, .undef, .undef, .undef, .undef, .undef, .undef, .undef, .undef, .undef, .undef, .undef, .undef, .undef], h⟩
def i_ref10_bytes_b0 : IR :=
  (.seq
   (.seq
    (.reg [] [
      ⟨(some 38), .mv (.t 4), none, []⟩,
      ⟨(some 39), .fa 4 (.t 1), none, []⟩,
      ⟨(some 40), .load false 1 (.t 39), none, []⟩,
      ⟨(some 41), .len false (.t 40), none, []⟩,
      ⟨(some 42), .bin .plain .lss (.t 38) (.t 41), none, []⟩])
    (.cond (.t 42)
     .skip
     (.exit 0 i_ref10_bytes_j0)))
   (.seq
    (.block 1 i_ref10_bytes_j1
     (.reg [] [
       ⟨(some 45), .mv (.t 3), none, []⟩,
       ⟨(some 46), .fa 4 (.t 1), none, []⟩,
       ⟨(some 47), .load false 1 (.t 46), none, []⟩,
       ⟨(some 48), .mv (.t 4), none, []⟩,
       ⟨(some 49), .ia 5 (.t 47) (.t 48), none, []⟩,
       ⟨(some 50), .load true 5 (.t 49), none, []⟩,
       ⟨(some 51), .qcall n_ref10_bytes [(.t 50)] [], none, []⟩,
       ⟨(some 52), .app 1 ty_uint8 1 1 (.t 45) (.t 51), none, []⟩,
       ⟨(some 3), .mv (.t 52), none, []⟩]))
    (.reg [] [
      ⟨(some 43), .mv (.t 4), none, []⟩,
      ⟨(some 44), .bin .plain .add (.t 43) (.k (.int .i64 1)), none, []⟩,
      ⟨(some 4), .mv (.t 44), none, []⟩])))

abbrev s_ref10_bytes_J0 (t3 : AV) (h : Heap) : St := ⟨[.undef, .undef, .undef, t3, .undef, .undef, .undef, .undef, .undef, .undef, .undef, .undef, .undef, .undef, .undef, .undef, .undef, .undef, .undef, .undef, .undef, .undef, .undef, .undef, .undef, .undef, .undef, .undef, .undef, .undef, .undef, .undef, .undef, .undef, .undef, .undef, .undef, .undef, .undef, .undef, .undef, .undef, .undef, .undef, .undef, .undef, .undef, .undef, .undef, .undef, .undef, .undef, .undef, .undef], h⟩
/-- heartwood/heartwoodref10.bytes -/
def i_ref10_bytes : Ev.Fn := ⟨1, 54, 2,
  (.seq
   (.reg [] [
     ⟨(some 1), .box 0 5 (.t 0), none, []⟩,
     ⟨(some 2), .cn (.k (.slice none 0 0)), none, []⟩])
   (.seq
    (.reg [] [
      ⟨(some 5), .fa 0 (.t 1), none, []⟩,
      ⟨(some 6), .load false 1 (.t 5), none, []⟩,
      ⟨(some 7), .conv .u8 (.t 6), none, []⟩,
      ⟨(some 8), .lit 1 ty_uint8 1 1 [(.int .u8 0)] [(0, (.t 7))], none, []⟩,
      ⟨(some 3), .mv (.t 8), none, []⟩])
    (.seq
     (.seq
      (.reg [] [
        ⟨(some 9), .fa 0 (.t 1), none, []⟩,
        ⟨(some 10), .load false 1 (.t 9), none, []⟩,
        ⟨(some 11), .bin .plain .eql (.t 10) (.k (.int .i64 1)), none, []⟩,
        ⟨(some 12), .mv (.t 11), none, []⟩,
        ⟨(some 13), .fa 0 (.t 1), (some (12, false)), []⟩,
        ⟨(some 14), .load false 1 (.t 13), (some (12, false)), []⟩,
        ⟨(some 15), .bin .plain .eql (.t 14) (.k (.int .i64 2)), (some (12, false)), []⟩,
        ⟨(some 16), .pick (.t 12) (.k (.bool true)) (.t 15), none, []⟩])
      (.cond (.t 16)
       (.reg [] [
         ⟨(some 17), .mv (.t 3), none, []⟩,
         ⟨(some 18), .fa 1 (.t 1), none, []⟩,
         ⟨(some 19), .load false 1 (.t 18), none, []⟩,
         ⟨(some 20), .qcall n_ref02_Bytes [(.t 19)] [], none, []⟩,
         ⟨(some 21), .app 1 ty_uint8 1 1 (.t 17) (.t 20), none, []⟩,
         ⟨(some 3), .mv (.t 21), none, []⟩])
       .skip))
     (.seq
      (.seq
       (.reg [] [
         ⟨(some 22), .fa 0 (.t 1), none, []⟩,
         ⟨(some 23), .load false 1 (.t 22), none, []⟩,
         ⟨(some 24), .bin .plain .eql (.t 23) (.k (.int .i64 1)), none, []⟩])
       (.cond (.t 24)
        (.reg [] [
          ⟨(some 25), .mv (.t 3), none, []⟩,
          ⟨(some 26), .fa 2 (.t 1), none, []⟩,
          ⟨(some 27), .load false 1 (.t 26), none, []⟩,
          ⟨(some 28), .qcall n_ref02_Bytes [(.t 27)] [], none, []⟩,
          ⟨(some 29), .app 1 ty_uint8 1 1 (.t 25) (.t 28), none, []⟩,
          ⟨(some 3), .mv (.t 29), none, []⟩])
        .skip))
      (.seq
       (.seq
        (.reg [] [
          ⟨(some 30), .fa 0 (.t 1), none, []⟩,
          ⟨(some 31), .load false 1 (.t 30), none, []⟩,
          ⟨(some 32), .bin .plain .gtr (.t 31) (.k (.int .i64 1)), none, []⟩])
        (.cond (.t 32)
         (.reg [] [
           ⟨(some 33), .mv (.t 3), none, []⟩,
           ⟨(some 34), .fa 3 (.t 1), none, []⟩,
           ⟨(some 35), .load false 1 (.t 34), none, []⟩,
           ⟨(some 36), .qcall n_ref02_Bytes [(.t 35)] [], none, []⟩,
           ⟨(some 37), .app 1 ty_uint8 1 1 (.t 33) (.t 36), none, []⟩,
           ⟨(some 3), .mv (.t 37), none, []⟩])
         .skip))
       (.seq
        (.seq
         (.reg [] [
           ⟨(some 4), .mv (.k (.int .i64 0)), none, []⟩])
         (.block 0 i_ref10_bytes_j0
          (.loop i_ref10_bytes_k0 i_ref10_bytes_b0)))
        (.seq
         (.reg [] [
           ⟨(some 53), .cn (.t 3), none, [3]⟩,
           ⟨(some 2), .cn (.t 53), none, [53]⟩])
         (.ret i_ref10_bytes_r)))))))),
  [.tmp 2], [], false, []⟩

def i_ref02_Bytes_r : List Bool := [false, false, true, false, false, false, false, false, false]
/-- heartwood/heartwoodref02.Bytes -/
def i_ref02_Bytes : Ev.Fn := ⟨1, 9, 2,
  (.seq
   (.reg [] [
     ⟨(some 2), .cn (.k (.slice none 0 0)), none, []⟩])
   (.seq
    (.reg [] [
      ⟨(some 3), .cn (.t 0), none, []⟩,
      ⟨(some 4), .len false (.t 3), none, []⟩,
      ⟨(some 5), .conv .u64 (.t 4), none, []⟩,
      ⟨(some 6), .qcall n_ref02_Number [(.t 5)] [0], none, []⟩,
      ⟨(some 7), .cn (.t 0), none, []⟩,
      ⟨(some 8), .app 1 ty_uint8 1 1 (.t 6) (.t 7), none, []⟩,
      ⟨(some 2), .cn (.t 8), none, [8]⟩])
    (.ret i_ref02_Bytes_r))),
  [.tmp 2], [], false, []⟩

def i_ref02_Number_r : List Bool := [false, false, true, false, false, false, false, false, false, false, false, false, false, false, false, false, false, false, false, false, false, false, false, false, false, false]
def i_ref02_Number_j1 : List Bool := [true, false, false, true, false, false, false, false, false, false, false, false, false, false, false, false, false, false, false, false, false, false, false, false, false, false]
def i_ref02_Number_k0 : List Bool := [true, false, false, true, false, false, false, false, false, false, false, false, false, false, false, false, false, false, false, false, false, false, false, false, false, false]
def i_ref02_Number_j0 : List Bool := [false, false, false, true, false, false, false, false, false, false, false, false, false, false, false, false, false, false, false, false, false, false, false, false, false, false]
abbrev s_ref02_Number_R (t2 : AV) (h : Heap) : St := ⟨[.undef, .undef, t2, .undef, .undef, .undef, .undef, .undef, .undef, .undef, .undef, .undef, .undef, .undef, .undef, .undef, .undef, .undef, .undef, .undef, .undef, .undef, .undef, .undef, .undef, .undef], h⟩
abbrev s_ref02_Number_K0 (t0 t3 : AV) (h : Heap) : St := ⟨[t0, .undef, .undef, t3, .undef, .undef, .undef, .undef, .undef, .undef, .undef, .undef, .undef, .undef, .undef, .undef, .undef, .undef, .undef, .undef, .undef, .undef, .undef, .undef, .undef, .undef], h⟩
def i_ref02_Number_b0 : IR :=
  (.seq
   (.seq
    (.reg [] [
      ⟨(some 9), .mv (.t 0), none, []⟩,
      ⟨(some 10), .bin .plain .gtr (.t 9) (.k (.int .u64 0)), none, []⟩])
    (.cond (.t 10)
     .skip
     (.exit 0 i_ref02_Number_j0)))
   (.block 1 i_ref02_Number_j1
    (.seq
     (.reg [] [
       ⟨(some 11), .mv (.t 0), none, []⟩,
       ⟨(some 12), .bin .plain .rem (.t 11) (.k (.int .u64 256)), none, []⟩,
       ⟨(some 13), .conv .u8 (.t 12), none, []⟩,
       ⟨(some 14), .lit 1 ty_uint8 1 1 [(.int .u8 0)] [(0, (.t 13))], none, []⟩,
       ⟨(some 15), .cn (.t 3), none, []⟩,
       ⟨(some 16), .app 1 ty_uint8 1 1 (.t 14) (.t 15), none, []⟩,
       ⟨(some 3), .cn (.t 16), none, [16]⟩])
     (.reg [] [
       ⟨(some 17), .mv (.t 0), none, []⟩,
       ⟨(some 18), .bin .plain .quo (.t 17) (.k (.int .u64 256)), none, []⟩,
       ⟨(some 0), .mv (.t 18), none, []⟩]))))

abbrev s_ref02_Number_J0 (t3 : AV) (h : Heap) : St := ⟨[.undef, .undef, .undef, t3, .undef, .undef, .undef, .undef, .undef, .undef, .undef, .undef, .undef, .undef, .undef, .undef, .undef, .undef, .undef, .undef, .undef, .undef, .undef, .undef, .undef, .undef], h⟩
/-- heartwood/heartwoodref02.Number -/
def i_ref02_Number : Ev.Fn := ⟨1, 26, 2,
  (.seq
   (.reg [] [
     ⟨(some 2), .mv (.k (.slice none 0 0)), none, []⟩])
   (.seq
    (.seq
     (.reg [] [
       ⟨(some 4), .mv (.t 0), none, []⟩,
       ⟨(some 5), .bin .plain .lss (.t 4) (.k (.int .u64 248)), none, []⟩])
     (.cond (.t 5)
      (.seq
       (.reg [] [
         ⟨(some 6), .mv (.t 0), none, []⟩,
         ⟨(some 7), .conv .u8 (.t 6), none, []⟩,
         ⟨(some 8), .lit 0 ty_uint8 1 1 [(.int .u8 0)] [(0, (.t 7))], none, []⟩,
         ⟨(some 2), .mv (.t 8), none, []⟩])
       (.ret i_ref02_Number_r))
      .skip))
    (.seq
     (.reg [] [
       ⟨(some 3), .cn (.k (.slice none 0 0)), none, []⟩])
     (.seq
      (.block 0 i_ref02_Number_j0
       (.loop i_ref02_Number_k0 i_ref02_Number_b0))
      (.seq
       (.reg [] [
         ⟨(some 19), .cn (.t 3), none, []⟩,
         ⟨(some 20), .len false (.t 19), none, []⟩,
         ⟨(some 21), .bin .plain .add (.k (.int .i64 247)) (.t 20), none, []⟩,
         ⟨(some 22), .conv .u8 (.t 21), none, []⟩,
         ⟨(some 23), .lit 0 ty_uint8 1 1 [(.int .u8 0)] [(0, (.t 22))], none, []⟩,
         ⟨(some 24), .cn (.t 3), none, []⟩,
         ⟨(some 25), .app 0 ty_uint8 1 1 (.t 23) (.t 24), none, []⟩,
         ⟨(some 2), .mv (.t 25), none, []⟩])
       (.ret i_ref02_Number_r)))))),
  [.tmp 2], [true], false, []⟩

def i_law10_CodeReads_r : List Bool := [false, false, true, false, false, false, false, false, false, false, false, false, false, false, false, false, false, false, false, false, false, false, false, false, false, false, false, false, false, false, false, false, false, false, false]
/-- heartwood/heartwoodlaw10.CodeReads -/
def i_law10_CodeReads : Ev.Fn := ⟨1, 35, 2,
  (.seq
   (.reg [] [
     ⟨(some 2), .mv (.k (.bool false)), none, []⟩])
   (.seq
    (.reg [] [
      ⟨(some 8), .qcall n_law10_up [] [], none, []⟩,
      ⟨(some 3), .mv (.t 8), none, []⟩])
    (.seq
     (.seq
      (.reg [] [
        ⟨(some 9), .cn (.t 0), none, []⟩,
        ⟨(some 10), .len false (.t 9), none, []⟩,
        ⟨(some 11), .bin .plain .gtr (.t 10) (.k (.int .i64 5000)), none, []⟩])
      (.cond (.t 11)
       (.seq
        (.reg [] [
          ⟨(some 12), .mv (.t 3), none, []⟩,
          ⟨(some 2), .mv (.t 12), none, []⟩])
        (.ret i_law10_CodeReads_r))
       .skip))
     (.seq
      (.reg [] [
        ⟨(some 14), .cn (.t 0), none, []⟩,
        ⟨(some 15), .qcall n_code_Read [(.t 14)] [], none, []⟩,
        ⟨(some 13), .mv (.t 15), none, []⟩,
        ⟨(some 16), .ext 0 (.t 13), none, []⟩,
        ⟨(some 17), .ext 1 (.t 13), none, []⟩,
        ⟨(some 4), .new 0 [(.int .i64 0), (.slice none 0 0), (.slice none 0 0), (.slice none 0 0), (.slice none 0 0)], none, []⟩,
        ⟨none, .store 5 (.t 4) (.t 16), none, []⟩,
        ⟨(some 5), .mv (.t 17), none, []⟩])
      (.seq
       (.reg [] [
         ⟨(some 19), .cn (.t 0), none, []⟩,
         ⟨(some 20), .qcall n_ref10_Read [(.t 19)] [], none, []⟩,
         ⟨(some 18), .mv (.t 20), none, []⟩,
         ⟨(some 21), .ext 0 (.t 18), none, []⟩,
         ⟨(some 22), .ext 1 (.t 18), none, []⟩,
         ⟨(some 6), .new 1 [(.int .i64 0), (.slice none 0 0), (.slice none 0 0), (.slice none 0 0), (.slice none 0 0)], none, []⟩,
         ⟨none, .store 5 (.t 6) (.t 21), none, []⟩,
         ⟨(some 7), .mv (.t 22), none, []⟩])
       (.seq
        (.reg [] [
          ⟨(some 23), .mv (.t 3), none, []⟩,
          ⟨(some 24), .mv (.t 23), none, []⟩,
          ⟨(some 25), .mv (.t 5), (some (24, true)), []⟩,
          ⟨(some 26), .qcall n_law00_Code [(.t 25)] [], (some (24, true)), []⟩,
          ⟨(some 27), .mv (.t 7), (some (24, true)), []⟩,
          ⟨(some 28), .bin .plain .eql (.t 26) (.t 27), (some (24, true)), []⟩,
          ⟨(some 29), .pick (.t 24) (.t 28) (.k (.bool false)), none, []⟩,
          ⟨(some 30), .mv (.t 29), none, []⟩,
          ⟨(some 31), .load true 5 (.t 4), (some (30, true)), []⟩,
          ⟨(some 32), .load true 5 (.t 6), (some (30, true)), []⟩,
          ⟨(some 33), .qcall n_ref04_Same [(.t 31), (.t 32)] [], (some (30, true)), []⟩,
          ⟨(some 34), .pick (.t 30) (.t 33) (.k (.bool false)), none, []⟩,
          ⟨(some 2), .mv (.t 34), none, []⟩])
        (.ret i_law10_CodeReads_r))))))),
  [.tmp 2], [], false, []⟩

def i_ref10_Read_r : List Bool := [false, false, true, true, false, false, false, false, false, false, false, false, false, false, false, false, false, false, false]
/-- heartwood/heartwoodref10.Read -/
def i_ref10_Read : Ev.Fn := ⟨1, 19, 3,
  (.seq
   (.reg [] [
     ⟨(some 2), .new 0 [(.int .i64 0), (.slice none 0 0), (.slice none 0 0), (.slice none 0 0), (.slice none 0 0)], none, []⟩,
     ⟨(some 3), .mv (.k (.int .i64 0)), none, []⟩])
   (.seq
    (.reg [] [
      ⟨(some 7), .cn (.t 0), none, []⟩,
      ⟨(some 8), .build [(.slice none 0 0), (.int .i64 0), (.bool false)] [(0, 1, (.t 7))], none, []⟩,
      ⟨(some 9), .box 1 3 (.t 8), none, []⟩,
      ⟨(some 4), .mv (.t 9), none, []⟩])
    (.seq
     (.reg [] [
       ⟨(some 10), .mv (.t 4), none, []⟩,
       ⟨(some 11), .call n_ref10_read [(.t 10), (.k (.int .i64 64))] [], none, []⟩,
       ⟨(some 5), .new 2 [(.int .i64 0), (.slice none 0 0), (.slice none 0 0), (.slice none 0 0), (.slice none 0 0)], none, []⟩,
       ⟨none, .store 5 (.t 5) (.t 11), none, []⟩])
     (.seq
      (.reg [] [
        ⟨(some 12), .mv (.t 4), none, []⟩,
        ⟨(some 13), .call n_ref02_Reader_End [(.t 12)] [], none, []⟩,
        ⟨(some 6), .mv (.t 13), none, []⟩])
      (.seq
       (.seq
        (.reg [] [
          ⟨(some 14), .mv (.t 6), none, []⟩,
          ⟨(some 15), .bin .plain .neq (.t 14) (.k (.int .i64 0)), none, []⟩])
        (.cond (.t 15)
         (.seq
          (.reg [] [
            ⟨(some 16), .build [(.int .i64 0), (.slice none 0 0), (.slice none 0 0), (.slice none 0 0), (.slice none 0 0)] [], none, []⟩,
            ⟨(some 17), .mv (.t 6), none, []⟩,
            ⟨none, .store 5 (.t 2) (.t 16), none, []⟩,
            ⟨(some 3), .mv (.t 17), none, []⟩])
          (.ret i_ref10_Read_r))
         .skip))
       (.seq
        (.reg [] [
          ⟨(some 18), .load true 5 (.t 5), none, []⟩,
          ⟨none, .store 5 (.t 2) (.t 18), none, []⟩,
          ⟨(some 3), .mv (.k (.int .i64 0)), none, []⟩])
        (.ret i_ref10_Read_r))))))),
  [.cell 2 true 5, .tmp 3], [], false, []⟩

def i_ref10_read_r : List Bool := [false, false, false, false, true, false, false, false, false, false, false, false, false, false, false, false, false, false, false, false, false, false, false, false, false, false, false, false, false, false, false, false, false, false, false, false, false, false, false, false, false, false, false, false, false, false, false, false, false, false, false, false, false, false, false, false, false, false, false, false, false, false, false, false, false, false, false, false, false, false, false, false, false, false, false, false, false]
/-- heartwood/heartwoodref10.read -/
def i_ref10_read : Ev.Fn := ⟨2, 77, 3,
  (.seq
   (.reg [] [
     ⟨(some 4), .new 0 [(.int .i64 0), (.slice none 0 0), (.slice none 0 0), (.slice none 0 0), (.slice none 0 0)], none, []⟩])
   (.seq
    (.reg [] [
      ⟨(some 7), .mv (.t 0), none, []⟩,
      ⟨(some 8), .call n_ref02_Reader_Byte [(.t 7)] [], none, []⟩,
      ⟨(some 9), .conv .i64 (.t 8), none, []⟩,
      ⟨(some 10), .build [(.int .i64 0), (.slice none 0 0), (.slice none 0 0), (.slice none 0 0), (.slice none 0 0)] [(0, 1, (.t 9))], none, []⟩,
      ⟨(some 5), .new 1 [(.int .i64 0), (.slice none 0 0), (.slice none 0 0), (.slice none 0 0), (.slice none 0 0)], none, []⟩,
      ⟨none, .store 5 (.t 5) (.t 10), none, []⟩])
    (.seq
     (.seq
      (.reg [] [
        ⟨(some 11), .fa 0 (.t 5), none, []⟩,
        ⟨(some 12), .load false 1 (.t 11), none, []⟩,
        ⟨(some 13), .bin .plain .gtr (.t 12) (.k (.int .i64 3)), none, []⟩,
        ⟨(some 14), .mv (.t 13), none, []⟩,
        ⟨(some 15), .mv (.t 1), (some (14, false)), []⟩,
        ⟨(some 16), .bin .plain .eql (.t 15) (.k (.int .i64 0)), (some (14, false)), []⟩,
        ⟨(some 17), .mv (.t 16), (some (14, false)), []⟩,
        ⟨(some 18), .fa 0 (.t 5), (some (17, true)), []⟩,
        ⟨(some 19), .load false 1 (.t 18), (some (17, true)), []⟩,
        ⟨(some 20), .bin .plain .eql (.t 19) (.k (.int .i64 1)), (some (17, true)), []⟩,
        ⟨(some 21), .mv (.t 20), (some (17, true)), []⟩,
        ⟨(some 22), .fa 0 (.t 5), (some (21, false)), []⟩,
        ⟨(some 23), .load false 1 (.t 22), (some (21, false)), []⟩,
        ⟨(some 24), .bin .plain .eql (.t 23) (.k (.int .i64 2)), (some (21, false)), []⟩,
        ⟨(some 25), .pick (.t 21) (.k (.bool true)) (.t 24), (some (17, true)), []⟩,
        ⟨(some 26), .pick (.t 17) (.t 25) (.k (.bool false)), (some (14, false)), []⟩,
        ⟨(some 27), .pick (.t 14) (.k (.bool true)) (.t 26), none, []⟩])
      (.cond (.t 27)
       (.reg [] [
         ⟨(some 28), .mv (.t 0), none, []⟩,
         ⟨(some 29), .nilc (.t 28), none, []⟩,
         ⟨(some 30), .fa 2 (.t 29), none, []⟩,
         ⟨none, .store 1 (.t 30) (.k (.bool true)), none, []⟩])
       .skip))
     (.seq
      (.seq
       (.reg [] [
         ⟨(some 31), .mv (.t 0), none, []⟩,
         ⟨(some 32), .nilc (.t 31), none, []⟩,
         ⟨(some 33), .fa 2 (.t 32), none, []⟩,
         ⟨(some 34), .load false 1 (.t 33), none, []⟩,
         ⟨(some 35), .mv (.t 34), none, []⟩,
         ⟨(some 36), .fa 0 (.t 5), (some (35, false)), []⟩,
         ⟨(some 37), .load false 1 (.t 36), (some (35, false)), []⟩,
         ⟨(some 38), .bin .plain .eql (.t 37) (.k (.int .i64 0)), (some (35, false)), []⟩,
         ⟨(some 39), .pick (.t 35) (.k (.bool true)) (.t 38), none, []⟩])
       (.cond (.t 39)
        (.seq
         (.reg [] [
           ⟨(some 40), .load true 5 (.t 5), none, []⟩,
           ⟨none, .store 5 (.t 4) (.t 40), none, []⟩])
         (.ret i_ref10_read_r))
        .skip))
      (.seq
       (.seq
        (.reg [] [
          ⟨(some 41), .fa 0 (.t 5), none, []⟩,
          ⟨(some 42), .load false 1 (.t 41), none, []⟩,
          ⟨(some 43), .bin .plain .eql (.t 42) (.k (.int .i64 3)), none, []⟩])
        (.cond (.t 43)
         (.seq
          (.reg [] [
            ⟨(some 44), .mv (.t 0), none, []⟩,
            ⟨(some 45), .call n_ref02_Reader_Bytes [(.t 44), (.k (.int .i64 32))] [], none, []⟩,
            ⟨(some 46), .fa 3 (.t 5), none, []⟩,
            ⟨none, .store 1 (.t 46) (.t 45), none, []⟩])
          (.seq
           (.reg [] [
             ⟨(some 47), .load true 5 (.t 5), none, []⟩,
             ⟨none, .store 5 (.t 4) (.t 47), none, []⟩])
           (.ret i_ref10_read_r)))
         .skip))
       (.seq
        (.reg [] [
          ⟨(some 48), .mv (.t 0), none, []⟩,
          ⟨(some 49), .call n_ref02_Reader_Bytes [(.t 48), (.k (.int .i64 80))] [], none, []⟩,
          ⟨(some 50), .fa 1 (.t 5), none, []⟩,
          ⟨none, .store 1 (.t 50) (.t 49), none, []⟩])
        (.seq
         (.seq
          (.reg [] [
            ⟨(some 51), .fa 0 (.t 5), none, []⟩,
            ⟨(some 52), .load false 1 (.t 51), none, []⟩,
            ⟨(some 53), .bin .plain .eql (.t 52) (.k (.int .i64 1)), none, []⟩])
          (.cond (.t 53)
           (.reg [] [
             ⟨(some 54), .mv (.t 0), none, []⟩,
             ⟨(some 55), .call n_ref02_Reader_Bytes [(.t 54), (.k (.int .i64 1024))] [], none, []⟩,
             ⟨(some 56), .fa 2 (.t 5), none, []⟩,
             ⟨none, .store 1 (.t 56) (.t 55), none, []⟩])
           (.reg [] [
             ⟨(some 57), .mv (.t 0), none, []⟩,
             ⟨(some 58), .call n_ref02_Reader_Bytes [(.t 57), (.k (.int .i64 32))] [], none, []⟩,
             ⟨(some 59), .fa 3 (.t 5), none, []⟩,
             ⟨none, .store 1 (.t 59) (.t 58), none, []⟩])))
         (.seq
          (.seq
           (.reg [] [
             ⟨(some 60), .mv (.t 0), none, []⟩,
             ⟨(some 61), .nilc (.t 60), none, []⟩,
             ⟨(some 62), .fa 2 (.t 61), none, []⟩,
             ⟨(some 63), .load false 1 (.t 62), none, []⟩])
           (.cond (.t 63)
            (.seq
             (.reg [] [
               ⟨(some 64), .load true 5 (.t 5), none, []⟩,
               ⟨none, .store 5 (.t 4) (.t 64), none, []⟩])
             (.ret i_ref10_read_r))
            .skip))
          (.seq
           (.reg [] [
             ⟨(some 65), .mv (.t 0), none, []⟩,
             ⟨(some 66), .mv (.t 1), none, []⟩,
             ⟨(some 67), .bin .plain .sub (.t 66) (.k (.int .i64 1)), none, []⟩,
             ⟨(some 68), .call n_ref10_read [(.t 65), (.t 67)] [], none, []⟩,
             ⟨(some 6), .new 2 [(.int .i64 0), (.slice none 0 0), (.slice none 0 0), (.slice none 0 0), (.slice none 0 0)], none, []⟩,
             ⟨none, .store 5 (.t 6) (.t 68), none, []⟩])
           (.seq
            (.reg [(0, 4)] [
              ⟨(some 69), .load true 5 (.t 6), none, []⟩,
              ⟨(some 70), .mv (.t 0), none, []⟩,
              ⟨(some 71), .mv (.t 1), none, []⟩,
              ⟨(some 72), .bin .plain .sub (.t 71) (.k (.int .i64 1)), none, []⟩,
              ⟨(some 73), .call n_ref10_read [(.t 70), (.t 72)] [], none, []⟩,
              ⟨(some 74), .litd 5 2 [(.int .i64 0), (.slice none 0 0), (.slice none 0 0), (.slice none 0 0), (.slice none 0 0)] [(0, (.t 69)), (1, (.t 73))], none, [69]⟩,
              ⟨(some 75), .fa 4 (.t 5), none, []⟩,
              ⟨none, .store 1 (.t 75) (.t 74), none, []⟩])
            (.seq
             (.reg [] [
               ⟨(some 76), .load true 5 (.t 5), none, []⟩,
               ⟨none, .store 5 (.t 4) (.t 76), none, []⟩])
             (.ret i_ref10_read_r)))))))))))),
  [.cell 4 true 5], [], false, []⟩

def i_ref02_Reader_Byte_r : List Bool := [false, false, true, false, false, false, false, false, false, false, false, false, false, false, false, false, false, false, false, false, false, false, false, false, false, false, false, false, false, false, false, false, false, false, false, false, false, false, false, false]
/-- (*heartwood/heartwoodref02.Reader).Byte -/
def i_ref02_Reader_Byte : Ev.Fn := ⟨1, 40, 0,
  (.seq
   (.reg [] [
     ⟨(some 2), .mv (.k (.int .u8 0)), none, []⟩])
   (.seq
    (.seq
     (.reg [] [
       ⟨(some 3), .mv (.t 0), none, []⟩,
       ⟨(some 4), .nilc (.t 3), none, []⟩,
       ⟨(some 5), .fa 2 (.t 4), none, []⟩,
       ⟨(some 6), .load false 1 (.t 5), none, []⟩,
       ⟨(some 7), .mv (.t 6), none, []⟩,
       ⟨(some 8), .mv (.t 0), (some (7, false)), []⟩,
       ⟨(some 9), .nilc (.t 8), (some (7, false)), []⟩,
       ⟨(some 10), .fa 1 (.t 9), (some (7, false)), []⟩,
       ⟨(some 11), .load false 1 (.t 10), (some (7, false)), []⟩,
       ⟨(some 12), .mv (.t 0), (some (7, false)), []⟩,
       ⟨(some 13), .nilc (.t 12), (some (7, false)), []⟩,
       ⟨(some 14), .fa 0 (.t 13), (some (7, false)), []⟩,
       ⟨(some 15), .load false 1 (.t 14), (some (7, false)), []⟩,
       ⟨(some 16), .len false (.t 15), (some (7, false)), []⟩,
       ⟨(some 17), .bin .plain .geq (.t 11) (.t 16), (some (7, false)), []⟩,
       ⟨(some 18), .pick (.t 7) (.k (.bool true)) (.t 17), none, []⟩])
     (.cond (.t 18)
      (.seq
       (.reg [] [
         ⟨(some 19), .mv (.t 0), none, []⟩,
         ⟨(some 20), .nilc (.t 19), none, []⟩,
         ⟨(some 21), .fa 2 (.t 20), none, []⟩,
         ⟨none, .store 1 (.t 21) (.k (.bool true)), none, []⟩])
       (.seq
        (.reg [] [
          ⟨(some 2), .mv (.k (.int .u8 0)), none, []⟩])
        (.ret i_ref02_Reader_Byte_r)))
      .skip))
    (.seq
     (.reg [] [
       ⟨(some 22), .mv (.t 0), none, []⟩,
       ⟨(some 23), .nilc (.t 22), none, []⟩,
       ⟨(some 24), .fa 1 (.t 23), none, []⟩,
       ⟨(some 25), .load false 1 (.t 24), none, []⟩,
       ⟨(some 26), .bin .plain .add (.t 25) (.k (.int .i64 1)), none, []⟩,
       ⟨(some 27), .nilc (.t 22), none, []⟩,
       ⟨(some 28), .fa 1 (.t 27), none, []⟩,
       ⟨none, .store 1 (.t 28) (.t 26), none, []⟩])
     (.seq
      (.reg [] [
        ⟨(some 29), .mv (.t 0), none, []⟩,
        ⟨(some 30), .nilc (.t 29), none, []⟩,
        ⟨(some 31), .fa 0 (.t 30), none, []⟩,
        ⟨(some 32), .load false 1 (.t 31), none, []⟩,
        ⟨(some 33), .mv (.t 0), none, []⟩,
        ⟨(some 34), .nilc (.t 33), none, []⟩,
        ⟨(some 35), .fa 1 (.t 34), none, []⟩,
        ⟨(some 36), .load false 1 (.t 35), none, []⟩,
        ⟨(some 37), .bin .plain .sub (.t 36) (.k (.int .i64 1)), none, []⟩,
        ⟨(some 38), .ia 1 (.t 32) (.t 37), none, []⟩,
        ⟨(some 39), .load false 1 (.t 38), none, []⟩,
        ⟨(some 2), .mv (.t 39), none, []⟩])
      (.ret i_ref02_Reader_Byte_r))))),
  [.tmp 2], [], false, []⟩

def i_ref02_Reader_Bytes_r : List Bool := [false, false, false, false, true, false, false, false, false, false, false, false, false, false, false, false, false, false, false, false, false, false, false, false, false, false, false, false, false, false, false, false, false, false, false, false, false, false, false, false, false, false, false, false, false, false, false, false, false, false, false, false, false, false, false, false, false, false, false, false, false, false, false, false, false, false, false, false, false, false]
/-- (*heartwood/heartwoodref02.Reader).Bytes -/
def i_ref02_Reader_Bytes : Ev.Fn := ⟨2, 70, 1,
  (.seq
   (.reg [] [
     ⟨(some 4), .cn (.k (.slice none 0 0)), none, []⟩])
   (.seq
    (.reg [] [
      ⟨(some 7), .mv (.t 0), none, []⟩,
      ⟨(some 8), .call n_ref02_Reader_Number [(.t 7)] [], none, []⟩,
      ⟨(some 5), .mv (.t 8), none, []⟩])
    (.seq
     (.seq
      (.reg [] [
        ⟨(some 9), .mv (.t 0), none, []⟩,
        ⟨(some 10), .nilc (.t 9), none, []⟩,
        ⟨(some 11), .fa 2 (.t 10), none, []⟩,
        ⟨(some 12), .load false 1 (.t 11), none, []⟩,
        ⟨(some 13), .mv (.t 12), none, []⟩,
        ⟨(some 14), .mv (.t 1), (some (13, false)), []⟩,
        ⟨(some 15), .bin .plain .lss (.t 14) (.k (.int .i64 0)), (some (13, false)), []⟩,
        ⟨(some 16), .pick (.t 13) (.k (.bool true)) (.t 15), none, []⟩,
        ⟨(some 17), .mv (.t 16), none, []⟩,
        ⟨(some 18), .mv (.t 5), (some (17, false)), []⟩,
        ⟨(some 19), .mv (.t 1), (some (17, false)), []⟩,
        ⟨(some 20), .conv .u64 (.t 19), (some (17, false)), []⟩,
        ⟨(some 21), .bin .plain .gtr (.t 18) (.t 20), (some (17, false)), []⟩,
        ⟨(some 22), .pick (.t 17) (.k (.bool true)) (.t 21), none, []⟩,
        ⟨(some 23), .mv (.t 22), none, []⟩,
        ⟨(some 24), .mv (.t 5), (some (23, false)), []⟩,
        ⟨(some 25), .mv (.t 0), (some (23, false)), []⟩,
        ⟨(some 26), .nilc (.t 25), (some (23, false)), []⟩,
        ⟨(some 27), .fa 0 (.t 26), (some (23, false)), []⟩,
        ⟨(some 28), .load false 1 (.t 27), (some (23, false)), []⟩,
        ⟨(some 29), .len false (.t 28), (some (23, false)), []⟩,
        ⟨(some 30), .mv (.t 0), (some (23, false)), []⟩,
        ⟨(some 31), .nilc (.t 30), (some (23, false)), []⟩,
        ⟨(some 32), .fa 1 (.t 31), (some (23, false)), []⟩,
        ⟨(some 33), .load false 1 (.t 32), (some (23, false)), []⟩,
        ⟨(some 34), .bin .plain .sub (.t 29) (.t 33), (some (23, false)), []⟩,
        ⟨(some 35), .conv .u64 (.t 34), (some (23, false)), []⟩,
        ⟨(some 36), .bin .plain .gtr (.t 24) (.t 35), (some (23, false)), []⟩,
        ⟨(some 37), .pick (.t 23) (.k (.bool true)) (.t 36), none, []⟩])
      (.cond (.t 37)
       (.seq
        (.reg [] [
          ⟨(some 38), .mv (.t 0), none, []⟩,
          ⟨(some 39), .nilc (.t 38), none, []⟩,
          ⟨(some 40), .fa 2 (.t 39), none, []⟩,
          ⟨none, .store 1 (.t 40) (.k (.bool true)), none, []⟩])
        (.seq
         (.reg [] [
           ⟨(some 4), .cn (.k (.slice none 0 0)), none, []⟩])
         (.ret i_ref02_Reader_Bytes_r)))
       .skip))
     (.seq
      (.reg [(0, 4), (0, 8), (0, 12), (0, 16)] [
        ⟨(some 41), .lit 0 ty_uint8 1 0 [(.int .u8 0)] [], none, []⟩,
        ⟨(some 42), .mv (.t 0), none, []⟩,
        ⟨(some 43), .nilc (.t 42), none, []⟩,
        ⟨(some 44), .fa 0 (.t 43), none, []⟩,
        ⟨(some 45), .load false 1 (.t 44), none, []⟩,
        ⟨(some 46), .mv (.t 0), none, []⟩,
        ⟨(some 47), .nilc (.t 46), none, []⟩,
        ⟨(some 48), .fa 1 (.t 47), none, []⟩,
        ⟨(some 49), .load false 1 (.t 48), none, []⟩,
        ⟨(some 50), .mv (.t 0), none, []⟩,
        ⟨(some 51), .nilc (.t 50), none, []⟩,
        ⟨(some 52), .fa 1 (.t 51), none, []⟩,
        ⟨(some 53), .load false 1 (.t 52), none, []⟩,
        ⟨(some 54), .mv (.t 5), none, []⟩,
        ⟨(some 55), .conv .i64 (.t 54), none, []⟩,
        ⟨(some 56), .bin .plain .add (.t 53) (.t 55), none, []⟩,
        ⟨(some 57), .slice 1 (.t 45) (some (.t 49)) (some (.t 56)) none, none, [45]⟩,
        ⟨(some 58), .app 0 ty_uint8 1 1 (.t 41) (.t 57), none, []⟩,
        ⟨(some 6), .cn (.t 58), none, [58]⟩])
      (.seq
       (.reg [] [
         ⟨(some 59), .mv (.t 0), none, []⟩,
         ⟨(some 60), .mv (.t 0), none, []⟩,
         ⟨(some 61), .nilc (.t 60), none, []⟩,
         ⟨(some 62), .fa 1 (.t 61), none, []⟩,
         ⟨(some 63), .load false 1 (.t 62), none, []⟩,
         ⟨(some 64), .mv (.t 5), none, []⟩,
         ⟨(some 65), .conv .i64 (.t 64), none, []⟩,
         ⟨(some 66), .bin .plain .add (.t 63) (.t 65), none, []⟩,
         ⟨(some 67), .nilc (.t 59), none, []⟩,
         ⟨(some 68), .fa 1 (.t 67), none, []⟩,
         ⟨none, .store 1 (.t 68) (.t 66), none, []⟩])
       (.seq
        (.reg [] [
          ⟨(some 69), .cn (.t 6), none, []⟩,
          ⟨(some 4), .cn (.t 69), none, []⟩])
        (.ret i_ref02_Reader_Bytes_r))))))),
  [.tmp 4], [], false, []⟩

def i_ref02_Reader_Number_r : List Bool := [false, false, true, false, false, false, false, false, false, false, false, false, false, false, false, false, false, false, false, false, false, false, false, false, false, false, false, false, false, false, false, false, false, false, false, false, false, false, false, false, false, false, false, false, false, false, false, false, false, false, false, false, false, false, false, false, false, false, false, false, false, false, false, false, false, false, false, false, false, false, false, false, false, false, false, false, false, false, false, false, false, false, false, false, false, false]
def i_ref02_Reader_Number_j1 : List Bool := [true, false, false, false, true, true, true, false, false, false, false, false, false, false, false, false, false, false, false, false, false, false, false, false, false, false, false, false, false, false, false, false, false, false, false, false, false, false, false, false, false, false, false, false, false, false, false, false, false, false, false, false, false, false, false, false, false, false, false, false, false, false, false, false, false, false, false, false, false, false, false, false, false, false, false, false, false, false, false, false, false, false, false, false, false, false]
def i_ref02_Reader_Number_k0 : List Bool := [true, false, false, false, true, true, true, false, false, false, false, false, false, false, false, false, false, false, false, false, false, false, false, false, false, false, false, false, false, false, false, false, false, false, false, false, false, false, false, false, false, false, false, false, false, false, false, false, false, false, false, false, false, false, false, false, false, false, false, false, false, false, false, false, false, false, false, false, false, false, false, false, false, false, false, false, false, false, false, false, false, false, false, false, false, false]
def i_ref02_Reader_Number_j0 : List Bool := [true, false, false, false, true, true, false, false, false, false, false, false, false, false, false, false, false, false, false, false, false, false, false, false, false, false, false, false, false, false, false, false, false, false, false, false, false, false, false, false, false, false, false, false, false, false, false, false, false, false, false, false, false, false, false, false, false, false, false, false, false, false, false, false, false, false, false, false, false, false, false, false, false, false, false, false, false, false, false, false, false, false, false, false, false, false]
abbrev s_ref02_Reader_Number_R (t2 : AV) (h : Heap) : St := ⟨[.undef, .undef, t2, .undef, .undef, .undef, .undef, .undef, .undef, .undef, .undef, .undef, .undef, .undef, .undef, .undef, .undef, .undef, .undef, .undef, .undef, .undef, .undef, .undef, .undef, .undef, .undef, .undef, .undef, .undef, .undef, .undef, .undef, .undef, .undef, .undef, .undef, .undef, .undef, .undef, .undef, .undef, .undef, .undef, .undef, .undef, .undef, .undef, .undef, .undef, .undef, .undef, .undef, .undef, .undef, .undef, .undef, .undef, .undef, .undef, .undef, .undef, .undef, .undef, .undef, .undef, .undef, .undef, .undef, .undef, .undef, .undef, .undef, .undef, .undef, .undef, .undef, .undef, .undef, .undef, .undef, .undef, .undef, .undef, .undef, .undef], h⟩
abbrev s_ref02_Reader_Number_K0 (t0 t4 t5 t6 : AV) (h : Heap) : St := ⟨[t0, .undef, .undef, .undef, t4, t5, t6, .undef, .undef, .undef, .undef, .undef, .undef, .undef, .undef, .undef, .undef, .undef, .undef, .undef, .undef, .undef, .undef, .undef, .undef, .undef, .undef, .undef, .undef, .undef, .undef, .undef, .undef, .undef, .undef, .undef, .undef, .undef, .undef, .undef, .undef, .undef, .undef, .undef, .undef, .undef, .undef, .undef, .undef, .undef, .undef, .undef, .undef, .undef, .undef, .undef, .undef, .undef, .undef, .undef, .undef, .undef, .undef, .undef, .undef, .undef, .undef, .undef, .undef, .undef, .undef, .undef, .undef, .undef, .undef, .undef, .undef, .undef, .undef, .undef, .undef, .undef, .undef, .undef, .undef, .undef], h⟩
def i_ref02_Reader_Number_b0 : IR :=
  (.seq
   (.seq
    (.reg [] [
      ⟨(some 37), .mv (.t 6), none, []⟩,
      ⟨(some 38), .mv (.t 4), none, []⟩,
      ⟨(some 39), .bin .plain .lss (.t 37) (.t 38), none, []⟩])
    (.cond (.t 39)
     .skip
     (.exit 0 i_ref02_Reader_Number_j0)))
   (.seq
    (.block 1 i_ref02_Reader_Number_j1
     (.reg [] [
       ⟨(some 42), .mv (.t 5), none, []⟩,
       ⟨(some 43), .bin .plain .mul (.k (.int .u64 256)) (.t 42), none, []⟩,
       ⟨(some 44), .mv (.t 0), none, []⟩,
       ⟨(some 45), .nilc (.t 44), none, []⟩,
       ⟨(some 46), .fa 0 (.t 45), none, []⟩,
       ⟨(some 47), .load false 1 (.t 46), none, []⟩,
       ⟨(some 48), .mv (.t 0), none, []⟩,
       ⟨(some 49), .nilc (.t 48), none, []⟩,
       ⟨(some 50), .fa 1 (.t 49), none, []⟩,
       ⟨(some 51), .load false 1 (.t 50), none, []⟩,
       ⟨(some 52), .mv (.t 6), none, []⟩,
       ⟨(some 53), .bin .plain .add (.t 51) (.t 52), none, []⟩,
       ⟨(some 54), .ia 1 (.t 47) (.t 53), none, []⟩,
       ⟨(some 55), .load false 1 (.t 54), none, []⟩,
       ⟨(some 56), .conv .u64 (.t 55), none, []⟩,
       ⟨(some 57), .bin .plain .add (.t 43) (.t 56), none, []⟩,
       ⟨(some 5), .mv (.t 57), none, []⟩]))
    (.reg [] [
      ⟨(some 40), .mv (.t 6), none, []⟩,
      ⟨(some 41), .bin .plain .add (.t 40) (.k (.int .i64 1)), none, []⟩,
      ⟨(some 6), .mv (.t 41), none, []⟩])))

end Go.Proofs.Ytebiajdkgpcidaa
