/- The IR of the seat's functions, printed by a program of this session. -/
import Derived.Test.YtfihodpdjpcpfaaEvE
set_option linter.unusedVariables false
namespace Go.Proofs.Ytfihodpdjpcpfaa
open Go.Ev

abbrev ty_uint8 : Nat := 5
abbrev ty_api_Tree : Nat := 29
abbrev ty_api_Pair : Nat := 38
abbrev ty_api_Code : Nat := 45
abbrev n_law06_ScanStays : Nat := 3
abbrev n_law06_up : Nat := 4
abbrev n_ref05_Grown : Nat := 5
abbrev n_ref04_Copy : Nat := 6
abbrev n_ref04_Same : Nat := 8
abbrev n_ref06_Same : Nat := 9
abbrev n_ref06_Range : Nat := 10
abbrev n_scan_In : Nat := 11
abbrev n_ref05_Put : Nat := 12
abbrev n_avl_Is : Nat := 13
abbrev n_tree_List : Nat := 14
abbrev n_ref04_List : Nat := 16
abbrev n_ref06_In : Nat := 17
abbrev n_bytes_Compare : Nat := 18
abbrev n_ref05_Node : Nat := 19
abbrev n_ref05_level : Nat := 20
abbrev n_tree_Full : Nat := 21
abbrev n_avl_even : Nat := 22
abbrev n_tree_Check : Nat := 23
abbrev n_tree_List_1 : Nat := 24
abbrev n_internal_bytealg_Compare : Nat := 25
abbrev n_ref05_tilt : Nat := 26
abbrev n_ref05_left : Nat := 27
abbrev n_ref05_right : Nat := 28
abbrev n_tree_full : Nat := 29
abbrev n_tree_deep : Nat := 30
abbrev n_tree_formed : Nat := 31
abbrev n_ref04_Depth : Nat := 32
abbrev n_slices_ContainsFunc_sl_api_Tree_api_Tree : Nat := 33
abbrev n_tree_full_1 : Nat := 34
abbrev n_tree_deep_1 : Nat := 35
abbrev n_tree_formed_1 : Nat := 36
abbrev n_slices_IndexFunc_sl_api_Tree_api_Tree : Nat := 37
abbrev n_scan_Range_v1 : Nat := 1000007
abbrev n_slices_Clone_sl_byte_byte_v1 : Nat := 1000015
def i_law06_ScanStays_r : List Bool := [false, false, false, false, true, false, false, false, false, false, false, false, false, false, false, false, false, false, false, false, false, false, false, false, false, false, false, false, false, false, false, false, false, false, false, false, false, false, false, false, false, false, false, false, false, false, false, false, false, false, false, false, false, false, false, false, false, false, false, false, false, false, false, false, false, false, false, false, false, false, false, false, false, false, false, false, false, false, false, false, false, false, false, false, false, false, false, false, false, false, false]
def i_law06_ScanStays_j3 : List Bool := [false, false, false, true, false, true, true, true, true, true, true, true, true, false, false, false, false, false, false, false, false, false, false, false, false, false, false, false, false, false, false, false, false, false, false, false, false, false, false, false, false, false, false, false, false, false, false, false, false, false, false, false, false, false, false, false, false, false, false, false, false, false, false, false, false, false, false, false, false, false, false, false, false, false, false, false, false, false, false, false, false, false, false, false, false, false, false, false, false, false, false]
def i_law06_ScanStays_k1 : List Bool := [false, false, false, true, false, true, true, true, true, true, true, true, true, false, false, false, false, false, false, false, false, false, false, false, false, false, false, false, false, false, false, false, false, false, false, false, false, false, false, false, false, false, false, false, false, false, false, false, false, false, false, false, false, false, false, false, false, false, false, false, false, false, false, false, false, false, false, false, false, false, false, false, false, false, false, false, false, false, false, false, false, false, false, false, false, false, false, false, false, false, false]
def i_law06_ScanStays_j2 : List Bool := [false, false, false, true, false, true, true, true, true, true, true, true, false, false, false, false, false, false, false, false, false, false, false, false, false, false, false, false, false, false, false, false, false, false, false, false, false, false, false, false, false, false, false, false, false, false, false, false, false, false, false, false, false, false, false, false, false, false, false, false, false, false, false, false, false, false, false, false, false, false, false, false, false, false, false, false, false, false, false, false, false, false, false, false, false, false, false, false, false, false, false]
def i_law06_ScanStays_j1 : List Bool := [false, false, false, true, false, true, true, true, true, true, true, true, false, false, false, false, false, false, false, false, false, false, false, false, false, false, false, false, false, false, false, false, false, false, false, false, false, false, false, false, false, false, false, false, false, false, false, false, false, false, false, false, false, false, false, false, false, false, false, false, false, false, false, false, false, false, false, false, false, false, false, false, false, false, false, false, false, false, false, false, false, false, false, false, false, false, false, false, false, false, false]
def i_law06_ScanStays_k0 : List Bool := [false, false, false, true, false, true, true, true, true, true, true, true, false, false, false, false, false, false, false, false, false, false, false, false, false, false, false, false, false, false, false, false, false, false, false, false, false, false, false, false, false, false, false, false, false, false, false, false, false, false, false, false, false, false, false, false, false, false, false, false, false, false, false, false, false, false, false, false, false, false, false, false, false, false, false, false, false, false, false, false, false, false, false, false, false, false, false, false, false, false, false]
def i_law06_ScanStays_j0 : List Bool := [false, false, false, true, false, true, true, true, false, true, true, false, false, false, false, false, false, false, false, false, false, false, false, false, false, false, false, false, false, false, false, false, false, false, false, false, false, false, false, false, false, false, false, false, false, false, false, false, false, false, false, false, false, false, false, false, false, false, false, false, false, false, false, false, false, false, false, false, false, false, false, false, false, false, false, false, false, false, false, false, false, false, false, false, false, false, false, false, false, false, false]
abbrev s_law06_ScanStays_R (t4 : AV) (h : Heap) : St := ⟨[.undef, .undef, .undef, .undef, t4, .undef, .undef, .undef, .undef, .undef, .undef, .undef, .undef, .undef, .undef, .undef, .undef, .undef, .undef, .undef, .undef, .undef, .undef, .undef, .undef, .undef, .undef, .undef, .undef, .undef, .undef, .undef, .undef, .undef, .undef, .undef, .undef, .undef, .undef, .undef, .undef, .undef, .undef, .undef, .undef, .undef, .undef, .undef, .undef, .undef, .undef, .undef, .undef, .undef, .undef, .undef, .undef, .undef, .undef, .undef, .undef, .undef, .undef, .undef, .undef, .undef, .undef, .undef, .undef, .undef, .undef, .undef, .undef, .undef, .undef, .undef, .undef, .undef, .undef, .undef, .undef, .undef, .undef, .undef, .undef, .undef, .undef, .undef, .undef, .undef, .undef], h⟩
abbrev s_law06_ScanStays_K1 (t3 t5 t6 t7 t8 t9 t10 t11 t12 : AV) (h : Heap) : St := ⟨[.undef, .undef, .undef, t3, .undef, t5, t6, t7, t8, t9, t10, t11, t12, .undef, .undef, .undef, .undef, .undef, .undef, .undef, .undef, .undef, .undef, .undef, .undef, .undef, .undef, .undef, .undef, .undef, .undef, .undef, .undef, .undef, .undef, .undef, .undef, .undef, .undef, .undef, .undef, .undef, .undef, .undef, .undef, .undef, .undef, .undef, .undef, .undef, .undef, .undef, .undef, .undef, .undef, .undef, .undef, .undef, .undef, .undef, .undef, .undef, .undef, .undef, .undef, .undef, .undef, .undef, .undef, .undef, .undef, .undef, .undef, .undef, .undef, .undef, .undef, .undef, .undef, .undef, .undef, .undef, .undef, .undef, .undef, .undef, .undef, .undef, .undef, .undef, .undef], h⟩
def i_law06_ScanStays_b1 : IR :=
  (.seq
   (.seq
    (.reg [] [
      ⟨(some 35), .mv (.t 12), none, []⟩,
      ⟨(some 36), .mv (.t 8), none, []⟩,
      ⟨(some 37), .mv (.t 11), none, []⟩,
      ⟨(some 38), .ia 2 (.t 36) (.t 37), none, []⟩,
      ⟨(some 39), .fa 1 (.t 38), none, []⟩,
      ⟨(some 40), .load false 1 (.t 39), none, []⟩,
      ⟨(some 41), .len false (.t 40), none, []⟩,
      ⟨(some 42), .bin .plain .lss (.t 35) (.t 41), none, []⟩])
    (.cond (.t 42)
     .skip
     (.exit 2 i_law06_ScanStays_j2)))
   (.seq
    (.block 3 i_law06_ScanStays_j3
     (.reg [] [
       ⟨(some 45), .mv (.t 8), none, []⟩,
       ⟨(some 46), .mv (.t 11), none, []⟩,
       ⟨(some 47), .ia 2 (.t 45) (.t 46), none, []⟩,
       ⟨(some 48), .fa 1 (.t 47), none, []⟩,
       ⟨(some 49), .load false 1 (.t 48), none, []⟩,
       ⟨(some 50), .mv (.t 12), none, []⟩,
       ⟨(some 51), .mv (.t 8), none, []⟩,
       ⟨(some 52), .mv (.t 11), none, []⟩,
       ⟨(some 53), .ia 2 (.t 51) (.t 52), none, []⟩,
       ⟨(some 54), .fa 1 (.t 53), none, []⟩,
       ⟨(some 55), .load false 1 (.t 54), none, []⟩,
       ⟨(some 56), .mv (.t 12), none, []⟩,
       ⟨(some 57), .ia 1 (.t 55) (.t 56), none, []⟩,
       ⟨(some 58), .load false 1 (.t 57), none, []⟩,
       ⟨(some 59), .bin .plain .add (.t 58) (.k (.int .u8 1)), none, []⟩,
       ⟨(some 60), .ia 1 (.t 49) (.t 50), none, []⟩,
       ⟨none, .store 1 (.t 60) (.t 59), none, []⟩]))
    (.reg [] [
      ⟨(some 43), .mv (.t 12), none, []⟩,
      ⟨(some 44), .bin .plain .add (.t 43) (.k (.int .i64 1)), none, []⟩,
      ⟨(some 12), .mv (.t 44), none, []⟩])))

abbrev s_law06_ScanStays_J2 (t3 t5 t6 t7 t8 t9 t10 t11 : AV) (h : Heap) : St := ⟨[.undef, .undef, .undef, t3, .undef, t5, t6, t7, t8, t9, t10, t11, .undef, .undef, .undef, .undef, .undef, .undef, .undef, .undef, .undef, .undef, .undef, .undef, .undef, .undef, .undef, .undef, .undef, .undef, .undef, .undef, .undef, .undef, .undef, .undef, .undef, .undef, .undef, .undef, .undef, .undef, .undef, .undef, .undef, .undef, .undef, .undef, .undef, .undef, .undef, .undef, .undef, .undef, .undef, .undef, .undef, .undef, .undef, .undef, .undef, .undef, .undef, .undef, .undef, .undef, .undef, .undef, .undef, .undef, .undef, .undef, .undef, .undef, .undef, .undef, .undef, .undef, .undef, .undef, .undef, .undef, .undef, .undef, .undef, .undef, .undef, .undef, .undef, .undef, .undef], h⟩
abbrev s_law06_ScanStays_J1 (t3 t5 t6 t7 t8 t9 t10 t11 : AV) (h : Heap) : St := ⟨[.undef, .undef, .undef, t3, .undef, t5, t6, t7, t8, t9, t10, t11, .undef, .undef, .undef, .undef, .undef, .undef, .undef, .undef, .undef, .undef, .undef, .undef, .undef, .undef, .undef, .undef, .undef, .undef, .undef, .undef, .undef, .undef, .undef, .undef, .undef, .undef, .undef, .undef, .undef, .undef, .undef, .undef, .undef, .undef, .undef, .undef, .undef, .undef, .undef, .undef, .undef, .undef, .undef, .undef, .undef, .undef, .undef, .undef, .undef, .undef, .undef, .undef, .undef, .undef, .undef, .undef, .undef, .undef, .undef, .undef, .undef, .undef, .undef, .undef, .undef, .undef, .undef, .undef, .undef, .undef, .undef, .undef, .undef, .undef, .undef, .undef, .undef, .undef, .undef], h⟩
abbrev s_law06_ScanStays_K0 (t3 t5 t6 t7 t8 t9 t10 t11 : AV) (h : Heap) : St := ⟨[.undef, .undef, .undef, t3, .undef, t5, t6, t7, t8, t9, t10, t11, .undef, .undef, .undef, .undef, .undef, .undef, .undef, .undef, .undef, .undef, .undef, .undef, .undef, .undef, .undef, .undef, .undef, .undef, .undef, .undef, .undef, .undef, .undef, .undef, .undef, .undef, .undef, .undef, .undef, .undef, .undef, .undef, .undef, .undef, .undef, .undef, .undef, .undef, .undef, .undef, .undef, .undef, .undef, .undef, .undef, .undef, .undef, .undef, .undef, .undef, .undef, .undef, .undef, .undef, .undef, .undef, .undef, .undef, .undef, .undef, .undef, .undef, .undef, .undef, .undef, .undef, .undef, .undef, .undef, .undef, .undef, .undef, .undef, .undef, .undef, .undef, .undef, .undef, .undef], h⟩
def i_law06_ScanStays_b0 : IR :=
  (.seq
   (.seq
    (.reg [] [
      ⟨(some 29), .mv (.t 11), none, []⟩,
      ⟨(some 30), .mv (.t 8), none, []⟩,
      ⟨(some 31), .len false (.t 30), none, []⟩,
      ⟨(some 32), .bin .plain .lss (.t 29) (.t 31), none, []⟩])
    (.cond (.t 32)
     .skip
     (.exit 0 i_law06_ScanStays_j0)))
   (.seq
    (.block 1 i_law06_ScanStays_j1
     (.seq
      (.reg [] [
        ⟨(some 12), .mv (.k (.int .i64 0)), none, []⟩])
      (.block 2 i_law06_ScanStays_j2
       (.loop i_law06_ScanStays_k1 i_law06_ScanStays_b1))))
    (.reg [] [
      ⟨(some 33), .mv (.t 11), none, []⟩,
      ⟨(some 34), .bin .plain .add (.t 33) (.k (.int .i64 1)), none, []⟩,
      ⟨(some 11), .mv (.t 34), none, []⟩])))

abbrev s_law06_ScanStays_J0 (t3 t5 t6 t7 t9 t10 : AV) (h : Heap) : St := ⟨[.undef, .undef, .undef, t3, .undef, t5, t6, t7, .undef, t9, t10, .undef, .undef, .undef, .undef, .undef, .undef, .undef, .undef, .undef, .undef, .undef, .undef, .undef, .undef, .undef, .undef, .undef, .undef, .undef, .undef, .undef, .undef, .undef, .undef, .undef, .undef, .undef, .undef, .undef, .undef, .undef, .undef, .undef, .undef, .undef, .undef, .undef, .undef, .undef, .undef, .undef, .undef, .undef, .undef, .undef, .undef, .undef, .undef, .undef, .undef, .undef, .undef, .undef, .undef, .undef, .undef, .undef, .undef, .undef, .undef, .undef, .undef, .undef, .undef, .undef, .undef, .undef, .undef, .undef, .undef, .undef, .undef, .undef, .undef, .undef, .undef, .undef, .undef, .undef, .undef], h⟩
/-- heartwood/heartwoodlaw06.ScanStays -/
def i_law06_ScanStays : Ev.Fn := ⟨2, 91, 3,
  (.seq
   (.reg [] [
     ⟨(some 3), .box 0 3 (.t 1), none, []⟩,
     ⟨(some 4), .mv (.k (.bool false)), none, []⟩])
   (.seq
    (.reg [] [
      ⟨(some 15), .qcall n_law06_up [] [], none, []⟩,
      ⟨(some 5), .mv (.t 15), none, []⟩])
    (.seq
     (.reg [] [
       ⟨(some 16), .cn (.t 0), none, []⟩,
       ⟨(some 17), .qcall n_ref05_Grown [(.t 16)] [], none, []⟩,
       ⟨(some 6), .new 1 [(.int .i64 0), (.slice none 0 0), (.slice none 0 0), (.slice none 0 0), (.slice none 0 0)], none, []⟩,
       ⟨none, .store 5 (.t 6) (.t 17), none, []⟩])
     (.seq
      (.reg [] [
        ⟨(some 18), .load true 5 (.t 6), none, []⟩,
        ⟨(some 19), .qcall n_ref04_Copy [(.t 18)] [], none, []⟩,
        ⟨(some 7), .new 2 [(.int .i64 0), (.slice none 0 0), (.slice none 0 0), (.slice none 0 0), (.slice none 0 0)], none, []⟩,
        ⟨none, .store 5 (.t 7) (.t 19), none, []⟩])
      (.seq
       (.reg [] [
         ⟨(some 21), .load true 5 (.t 7), none, []⟩,
         ⟨(some 22), .load true 3 (.t 3), none, []⟩,
         ⟨(some 23), .qcall n_scan_Range_v1 [(.t 21), (.t 22)] [], none, []⟩,
         ⟨(some 20), .mv (.t 23), none, []⟩,
         ⟨(some 24), .ext 0 (.t 20), none, []⟩,
         ⟨(some 25), .ext 1 (.t 20), none, []⟩,
         ⟨(some 8), .mv (.t 24), none, []⟩,
         ⟨(some 9), .mv (.t 25), none, []⟩])
       (.seq
        (.reg [] [
          ⟨(some 26), .load true 5 (.t 7), none, []⟩,
          ⟨(some 27), .load true 5 (.t 6), none, []⟩,
          ⟨(some 28), .qcall n_ref04_Same [(.t 26), (.t 27)] [], none, []⟩,
          ⟨(some 10), .mv (.t 28), none, []⟩])
        (.seq
         (.seq
          (.reg [] [
            ⟨(some 11), .mv (.k (.int .i64 0)), none, []⟩])
          (.block 0 i_law06_ScanStays_j0
           (.loop i_law06_ScanStays_k0 i_law06_ScanStays_b0)))
         (.seq
          (.reg [] [
            ⟨(some 62), .load true 5 (.t 7), none, []⟩,
            ⟨(some 63), .load true 3 (.t 3), none, []⟩,
            ⟨(some 64), .qcall n_scan_Range_v1 [(.t 62), (.t 63)] [], none, []⟩,
            ⟨(some 61), .mv (.t 64), none, []⟩,
            ⟨(some 65), .ext 0 (.t 61), none, []⟩,
            ⟨(some 66), .ext 1 (.t 61), none, []⟩,
            ⟨(some 13), .cn (.t 65), none, []⟩,
            ⟨(some 14), .mv (.t 66), none, []⟩])
          (.seq
           (.reg [] [
             ⟨(some 67), .mv (.t 5), none, []⟩,
             ⟨(some 68), .mv (.t 67), none, []⟩,
             ⟨(some 69), .mv (.t 10), (some (68, true)), []⟩,
             ⟨(some 70), .pick (.t 68) (.t 69) (.k (.bool false)), none, []⟩,
             ⟨(some 71), .mv (.t 70), none, []⟩,
             ⟨(some 72), .mv (.t 9), (some (71, true)), []⟩,
             ⟨(some 73), .bin (.iface ty_api_Code true) .eql (.t 72) (.k .nilIface), (some (71, true)), []⟩,
             ⟨(some 74), .pick (.t 71) (.t 73) (.k (.bool false)), none, []⟩,
             ⟨(some 75), .mv (.t 74), none, []⟩,
             ⟨(some 76), .mv (.t 14), (some (75, true)), []⟩,
             ⟨(some 77), .bin (.iface ty_api_Code true) .eql (.t 76) (.k .nilIface), (some (75, true)), []⟩,
             ⟨(some 78), .pick (.t 75) (.t 77) (.k (.bool false)), none, []⟩,
             ⟨(some 79), .mv (.t 78), none, []⟩,
             ⟨(some 80), .cn (.t 13), (some (79, true)), []⟩,
             ⟨(some 81), .load true 5 (.t 6), (some (79, true)), []⟩,
             ⟨(some 82), .load true 3 (.t 3), (some (79, true)), []⟩,
             ⟨(some 83), .qcall n_ref06_Range [(.t 81), (.t 82)] [], (some (79, true)), []⟩,
             ⟨(some 84), .qcall n_ref06_Same [(.t 80), (.t 83)] [], (some (79, true)), []⟩,
             ⟨(some 85), .pick (.t 79) (.t 84) (.k (.bool false)), none, []⟩,
             ⟨(some 86), .mv (.t 85), none, []⟩,
             ⟨(some 87), .load true 5 (.t 7), (some (86, true)), []⟩,
             ⟨(some 88), .load true 5 (.t 6), (some (86, true)), []⟩,
             ⟨(some 89), .qcall n_ref04_Same [(.t 87), (.t 88)] [], (some (86, true)), []⟩,
             ⟨(some 90), .pick (.t 86) (.t 89) (.k (.bool false)), none, []⟩,
             ⟨(some 4), .mv (.t 90), none, []⟩])
           (.ret i_law06_ScanStays_r)))))))))),
  [.tmp 4], [], false, [], false⟩

def i_law06_up_r : List Bool := [true, false, false, false, false, false, false, false, false, false, false, false, false, false, false, false, false, false, false, false, false, false]
/-- heartwood/heartwoodlaw06.up -/
def i_law06_up : Ev.Fn := ⟨0, 22, 5,
  (.seq
   (.reg [] [
     ⟨(some 0), .mv (.k (.bool false)), none, []⟩])
   (.seq
    (.reg [] [
      ⟨(some 3), .lit 0 ty_uint8 1 1 [(.int .u8 0)] [(0, (.k (.int .u8 98)))], none, []⟩,
      ⟨(some 4), .markb (.t 3), none, []⟩,
      ⟨(some 5), .build [(.slice none 0 0), (.slice none 0 0), (.bool false)] [(0, 1, (.t 4)), (2, 1, (.k (.bool true)))], none, []⟩,
      ⟨(some 6), .lit 1 ty_uint8 1 1 [(.int .u8 0)] [(0, (.k (.int .u8 98)))], none, []⟩,
      ⟨(some 7), .markb (.t 6), none, []⟩,
      ⟨(some 8), .qcall n_scan_In [(.t 5), (.t 7)] [], none, []⟩,
      ⟨(some 1), .mv (.t 8), none, []⟩])
    (.seq
     (.reg [] [
       ⟨(some 9), .lit 2 ty_uint8 1 1 [(.int .u8 0)] [(0, (.k (.int .u8 98)))], none, []⟩,
       ⟨(some 10), .markb (.t 9), none, []⟩,
       ⟨(some 11), .lit 3 ty_uint8 1 1 [(.int .u8 0)] [(0, (.k (.int .u8 98)))], none, []⟩,
       ⟨(some 12), .markb (.t 11), none, []⟩,
       ⟨(some 13), .build [(.slice none 0 0), (.slice none 0 0), (.bool false)] [(0, 1, (.t 10)), (1, 1, (.t 12))], none, []⟩,
       ⟨(some 14), .lit 4 ty_uint8 1 1 [(.int .u8 0)] [(0, (.k (.int .u8 98)))], none, []⟩,
       ⟨(some 15), .markb (.t 14), none, []⟩,
       ⟨(some 16), .qcall n_scan_In [(.t 13), (.t 15)] [], none, []⟩,
       ⟨(some 2), .mv (.t 16), none, []⟩])
     (.seq
      (.reg [] [
        ⟨(some 17), .mv (.t 1), none, []⟩,
        ⟨(some 18), .mv (.t 17), none, []⟩,
        ⟨(some 19), .mv (.t 2), (some (18, true)), []⟩,
        ⟨(some 20), .un .not (.t 19), (some (18, true)), []⟩,
        ⟨(some 21), .pick (.t 18) (.t 20) (.k (.bool false)), none, []⟩,
        ⟨(some 0), .mv (.t 21), none, []⟩])
      (.ret i_law06_up_r))))),
  [.tmp 0], [], false, [], false⟩

def i_scan_In_r : List Bool := [false, false, false, false, true, false, false, false, false, false, false, false, false, false, false, false, false, false, false, false, false]
/-- heartwood/scan.In -/
def i_scan_In : Ev.Fn := ⟨2, 21, 1,
  (.seq
   (.reg [] [
     ⟨(some 2), .box 0 3 (.t 0), none, []⟩,
     ⟨(some 4), .mv (.k (.bool false)), none, []⟩])
   (.seq
    (.reg [] [
      ⟨(some 5), .cn (.t 1), none, []⟩,
      ⟨(some 6), .fa 0 (.t 2), none, []⟩,
      ⟨(some 7), .load false 1 (.t 6), none, []⟩,
      ⟨(some 8), .qcall n_bytes_Compare [(.t 5), (.t 7)] [], none, []⟩,
      ⟨(some 9), .bin .plain .geq (.t 8) (.k (.int .i64 0)), none, []⟩,
      ⟨(some 10), .mv (.t 9), none, []⟩,
      ⟨(some 11), .fa 2 (.t 2), (some (10, true)), []⟩,
      ⟨(some 12), .load false 1 (.t 11), (some (10, true)), []⟩,
      ⟨(some 13), .mv (.t 12), (some (10, true)), []⟩,
      ⟨(some 14), .cn (.t 1), (some (13, false)), []⟩,
      ⟨(some 15), .fa 1 (.t 2), (some (13, false)), []⟩,
      ⟨(some 16), .load false 1 (.t 15), (some (13, false)), []⟩,
      ⟨(some 17), .qcall n_bytes_Compare [(.t 14), (.t 16)] [], (some (13, false)), []⟩,
      ⟨(some 18), .bin .plain .lss (.t 17) (.k (.int .i64 0)), (some (13, false)), []⟩,
      ⟨(some 19), .pick (.t 13) (.k (.bool true)) (.t 18), (some (10, true)), []⟩,
      ⟨(some 20), .pick (.t 10) (.t 19) (.k (.bool false)), none, []⟩,
      ⟨(some 4), .mv (.t 20), none, []⟩])
    (.ret i_scan_In_r))),
  [.tmp 4], [], false, [], false⟩

def i_bytes_Compare_r : List Bool := [false, false, false, false, true, false, false, false]
/-- bytes.Compare -/
def i_bytes_Compare : Ev.Fn := ⟨2, 8, 0,
  (.seq
   (.reg [] [
     ⟨(some 4), .mv (.k (.int .i64 0)), none, []⟩])
   (.seq
    (.reg [] [
      ⟨(some 5), .cn (.t 0), none, []⟩,
      ⟨(some 6), .cn (.t 1), none, []⟩,
      ⟨(some 7), .cmpb (.t 5) (.t 6), none, []⟩,
      ⟨(some 4), .mv (.t 7), none, []⟩])
    (.ret i_bytes_Compare_r))),
  [.tmp 4], [], false, [], false⟩

def i_ref05_Grown_r : List Bool := [false, false, true, false, false, false, false, false, false, false, false, false, false, false, false, false, false, false, false, false, false, false, false, false, false, false, false, false, false, false, false, false, false, false, false, false, false, false, false, false, false, false, false, false, false]
def i_ref05_Grown_j1 : List Bool := [true, false, true, true, true, false, false, false, false, false, false, false, false, false, false, false, false, false, false, false, false, false, false, false, false, false, false, false, false, false, false, false, false, false, false, false, false, false, false, false, false, false, false, false, false]
def i_ref05_Grown_k0 : List Bool := [true, false, true, true, true, false, false, false, false, false, false, false, false, false, false, false, false, false, false, false, false, false, false, false, false, false, false, false, false, false, false, false, false, false, false, false, false, false, false, false, false, false, false, false, false]
def i_ref05_Grown_j0 : List Bool := [false, false, true, true, false, false, false, false, false, false, false, false, false, false, false, false, false, false, false, false, false, false, false, false, false, false, false, false, false, false, false, false, false, false, false, false, false, false, false, false, false, false, false, false, false]
abbrev s_ref05_Grown_R (t2 : AV) (h : Heap) : St := ⟨[.undef, .undef, t2, .undef, .undef, .undef, .undef, .undef, .undef, .undef, .undef, .undef, .undef, .undef, .undef, .undef, .undef, .undef, .undef, .undef, .undef, .undef, .undef, .undef, .undef, .undef, .undef, .undef, .undef, .undef, .undef, .undef, .undef, .undef, .undef, .undef, .undef, .undef, .undef, .undef, .undef, .undef, .undef, .undef, .undef], h⟩
abbrev s_ref05_Grown_K0 (t0 t2 t3 t4 : AV) (h : Heap) : St := ⟨[t0, .undef, t2, t3, t4, .undef, .undef, .undef, .undef, .undef, .undef, .undef, .undef, .undef, .undef, .undef, .undef, .undef, .undef, .undef, .undef, .undef, .undef, .undef, .undef, .undef, .undef, .undef, .undef, .undef, .undef, .undef, .undef, .undef, .undef, .undef, .undef, .undef, .undef, .undef, .undef, .undef, .undef, .undef, .undef], h⟩
def i_ref05_Grown_b0 : IR :=
  (.seq
   (.seq
    (.reg [] [
      ⟨(some 6), .mv (.t 4), none, []⟩,
      ⟨(some 7), .cn (.t 0), none, []⟩,
      ⟨(some 8), .len false (.t 7), none, []⟩,
      ⟨(some 9), .bin .plain .lss (.t 6) (.t 8), none, []⟩,
      ⟨(some 10), .mv (.t 9), none, []⟩,
      ⟨(some 11), .mv (.t 4), (some (10, true)), []⟩,
      ⟨(some 12), .bin .plain .lss (.t 11) (.k (.int .i64 60)), (some (10, true)), []⟩,
      ⟨(some 13), .pick (.t 10) (.t 12) (.k (.bool false)), none, []⟩])
    (.cond (.t 13)
     .skip
     (.exit 0 i_ref05_Grown_j0)))
   (.seq
    (.block 1 i_ref05_Grown_j1
     (.seq
      (.reg [] [
        ⟨(some 16), .cn (.t 0), none, []⟩,
        ⟨(some 17), .mv (.t 4), none, []⟩,
        ⟨(some 18), .ia 2 (.t 16) (.t 17), none, []⟩,
        ⟨(some 19), .fa 0 (.t 18), none, []⟩,
        ⟨(some 20), .load false 1 (.t 19), none, []⟩,
        ⟨(some 21), .len false (.t 20), none, []⟩,
        ⟨(some 22), .bin .plain .leq (.t 21) (.k (.int .i64 80)), none, []⟩,
        ⟨(some 23), .mv (.t 22), none, []⟩,
        ⟨(some 24), .cn (.t 0), (some (23, true)), []⟩,
        ⟨(some 25), .mv (.t 4), (some (23, true)), []⟩,
        ⟨(some 26), .ia 2 (.t 24) (.t 25), (some (23, true)), []⟩,
        ⟨(some 27), .fa 1 (.t 26), (some (23, true)), []⟩,
        ⟨(some 28), .load false 1 (.t 27), (some (23, true)), []⟩,
        ⟨(some 29), .len false (.t 28), (some (23, true)), []⟩,
        ⟨(some 30), .bin .plain .leq (.t 29) (.k (.int .i64 1024)), (some (23, true)), []⟩,
        ⟨(some 31), .pick (.t 23) (.t 30) (.k (.bool false)), none, []⟩])
      (.cond (.t 31)
       (.reg [] [
         ⟨(some 32), .load true 5 (.t 3), none, []⟩,
         ⟨(some 33), .cn (.t 0), none, []⟩,
         ⟨(some 34), .mv (.t 4), none, []⟩,
         ⟨(some 35), .ia 2 (.t 33) (.t 34), none, []⟩,
         ⟨(some 36), .fa 0 (.t 35), none, []⟩,
         ⟨(some 37), .load false 1 (.t 36), none, []⟩,
         ⟨(some 38), .cn (.t 0), none, []⟩,
         ⟨(some 39), .mv (.t 4), none, []⟩,
         ⟨(some 40), .ia 2 (.t 38) (.t 39), none, []⟩,
         ⟨(some 41), .fa 1 (.t 40), none, []⟩,
         ⟨(some 42), .load false 1 (.t 41), none, []⟩,
         ⟨(some 43), .qcall n_ref05_Put [(.t 32), (.t 37), (.t 42)] [], none, []⟩,
         ⟨none, .store 5 (.t 3) (.t 43), none, []⟩])
       .skip)))
    (.reg [] [
      ⟨(some 14), .mv (.t 4), none, []⟩,
      ⟨(some 15), .bin .plain .add (.t 14) (.k (.int .i64 1)), none, []⟩,
      ⟨(some 4), .mv (.t 15), none, []⟩])))

abbrev s_ref05_Grown_J0 (t2 t3 : AV) (h : Heap) : St := ⟨[.undef, .undef, t2, t3, .undef, .undef, .undef, .undef, .undef, .undef, .undef, .undef, .undef, .undef, .undef, .undef, .undef, .undef, .undef, .undef, .undef, .undef, .undef, .undef, .undef, .undef, .undef, .undef, .undef, .undef, .undef, .undef, .undef, .undef, .undef, .undef, .undef, .undef, .undef, .undef, .undef, .undef, .undef, .undef, .undef], h⟩
/-- heartwood/heartwoodref05.Grown -/
def i_ref05_Grown : Ev.Fn := ⟨1, 45, 2,
  (.seq
   (.reg [] [
     ⟨(some 2), .new 0 [(.int .i64 0), (.slice none 0 0), (.slice none 0 0), (.slice none 0 0), (.slice none 0 0)], none, []⟩])
   (.seq
    (.reg [] [
      ⟨(some 5), .build [(.int .i64 0), (.slice none 0 0), (.slice none 0 0), (.slice none 0 0), (.slice none 0 0)] [], none, []⟩,
      ⟨(some 3), .new 1 [(.int .i64 0), (.slice none 0 0), (.slice none 0 0), (.slice none 0 0), (.slice none 0 0)], none, []⟩,
      ⟨none, .store 5 (.t 3) (.t 5), none, []⟩])
    (.seq
     (.seq
      (.reg [] [
        ⟨(some 4), .mv (.k (.int .i64 0)), none, []⟩])
      (.block 0 i_ref05_Grown_j0
       (.loop i_ref05_Grown_k0 i_ref05_Grown_b0)))
     (.seq
      (.reg [] [
        ⟨(some 44), .load true 5 (.t 3), none, []⟩,
        ⟨none, .store 5 (.t 2) (.t 44), none, []⟩])
      (.ret i_ref05_Grown_r))))),
  [.cell 2 true 5], [], false, [], false⟩

def i_ref05_Put_r : List Bool := [false, false, false, false, false, false, true, false, false, false, false, false, false, false, false, false, false, false, false, false, false, false, false, false, false, false, false, false, false, false, false, false, false, false, false, false, false, false, false, false, false, false, false, false, false, false, false, false, false, false, false, false, false, false, false, false, false, false, false, false, false, false, false, false, false, false, false, false, false, false, false, false, false]
/-- heartwood/heartwoodref05.Put -/
def i_ref05_Put : Ev.Fn := ⟨3, 73, 2,
  (.seq
   (.reg [] [
     ⟨(some 3), .box 0 5 (.t 0), none, []⟩,
     ⟨(some 6), .new 1 [(.int .i64 0), (.slice none 0 0), (.slice none 0 0), (.slice none 0 0), (.slice none 0 0)], none, []⟩])
   (.seq
    (.seq
     (.reg [] [
       ⟨(some 7), .fa 4 (.t 3), none, []⟩,
       ⟨(some 8), .load false 1 (.t 7), none, []⟩,
       ⟨(some 9), .len false (.t 8), none, []⟩,
       ⟨(some 10), .bin .plain .eql (.t 9) (.k (.int .i64 0)), none, []⟩])
     (.cond (.t 10)
      (.seq
       (.reg [] [
         ⟨(some 11), .build [(.int .i64 0), (.slice none 0 0), (.slice none 0 0), (.slice none 0 0), (.slice none 0 0)] [], none, []⟩,
         ⟨(some 12), .cn (.t 1), none, []⟩,
         ⟨(some 13), .cn (.t 2), none, []⟩,
         ⟨(some 14), .build [(.int .i64 0), (.slice none 0 0), (.slice none 0 0), (.slice none 0 0), (.slice none 0 0)] [], none, []⟩,
         ⟨(some 15), .qcall n_ref05_Node [(.t 11), (.t 12), (.t 13), (.t 14)] [], none, []⟩,
         ⟨none, .store 5 (.t 6) (.t 15), none, []⟩])
       (.ret i_ref05_Put_r))
      .skip))
    (.seq
     (.seq
      (.reg [] [
        ⟨(some 16), .cn (.t 1), none, []⟩,
        ⟨(some 17), .b2s (.t 16), none, []⟩,
        ⟨(some 18), .fa 1 (.t 3), none, []⟩,
        ⟨(some 19), .load false 1 (.t 18), none, []⟩,
        ⟨(some 20), .b2s (.t 19), none, []⟩,
        ⟨(some 21), .bin .plain .eql (.t 17) (.t 20), none, []⟩])
      (.cond (.t 21)
       (.seq
        (.reg [] [
          ⟨(some 22), .fa 4 (.t 3), none, []⟩,
          ⟨(some 23), .load false 1 (.t 22), none, []⟩,
          ⟨(some 24), .ia 5 (.t 23) (.k (.int .i64 0)), none, []⟩,
          ⟨(some 25), .load true 5 (.t 24), none, []⟩,
          ⟨(some 26), .cn (.t 1), none, []⟩,
          ⟨(some 27), .cn (.t 2), none, []⟩,
          ⟨(some 28), .fa 4 (.t 3), none, []⟩,
          ⟨(some 29), .load false 1 (.t 28), none, []⟩,
          ⟨(some 30), .ia 5 (.t 29) (.k (.int .i64 1)), none, []⟩,
          ⟨(some 31), .load true 5 (.t 30), none, []⟩,
          ⟨(some 32), .qcall n_ref05_Node [(.t 25), (.t 26), (.t 27), (.t 31)] [], none, []⟩,
          ⟨none, .store 5 (.t 6) (.t 32), none, []⟩])
        (.ret i_ref05_Put_r))
       .skip))
     (.seq
      (.seq
       (.reg [] [
         ⟨(some 33), .cn (.t 1), none, []⟩,
         ⟨(some 34), .b2s (.t 33), none, []⟩,
         ⟨(some 35), .fa 1 (.t 3), none, []⟩,
         ⟨(some 36), .load false 1 (.t 35), none, []⟩,
         ⟨(some 37), .b2s (.t 36), none, []⟩,
         ⟨(some 38), .bin .plain .lss (.t 34) (.t 37), none, []⟩])
       (.cond (.t 38)
        (.seq
         (.reg [] [
           ⟨(some 39), .fa 4 (.t 3), none, []⟩,
           ⟨(some 40), .load false 1 (.t 39), none, []⟩,
           ⟨(some 41), .ia 5 (.t 40) (.k (.int .i64 0)), none, []⟩,
           ⟨(some 42), .load true 5 (.t 41), none, []⟩,
           ⟨(some 43), .cn (.t 1), none, []⟩,
           ⟨(some 44), .cn (.t 2), none, []⟩,
           ⟨(some 45), .qcall n_ref05_Put [(.t 42), (.t 43), (.t 44)] [], none, []⟩,
           ⟨(some 46), .fa 1 (.t 3), none, []⟩,
           ⟨(some 47), .load false 1 (.t 46), none, []⟩,
           ⟨(some 48), .fa 2 (.t 3), none, []⟩,
           ⟨(some 49), .load false 1 (.t 48), none, []⟩,
           ⟨(some 50), .fa 4 (.t 3), none, []⟩,
           ⟨(some 51), .load false 1 (.t 50), none, []⟩,
           ⟨(some 52), .ia 5 (.t 51) (.k (.int .i64 1)), none, []⟩,
           ⟨(some 53), .load true 5 (.t 52), none, []⟩,
           ⟨(some 54), .qcall n_ref05_Node [(.t 45), (.t 47), (.t 49), (.t 53)] [], none, []⟩,
           ⟨(some 55), .qcall n_ref05_level [(.t 54)] [], none, []⟩,
           ⟨none, .store 5 (.t 6) (.t 55), none, []⟩])
         (.ret i_ref05_Put_r))
        .skip))
      (.seq
       (.reg [] [
         ⟨(some 56), .fa 4 (.t 3), none, []⟩,
         ⟨(some 57), .load false 1 (.t 56), none, []⟩,
         ⟨(some 58), .ia 5 (.t 57) (.k (.int .i64 0)), none, []⟩,
         ⟨(some 59), .load true 5 (.t 58), none, []⟩,
         ⟨(some 60), .fa 1 (.t 3), none, []⟩,
         ⟨(some 61), .load false 1 (.t 60), none, []⟩,
         ⟨(some 62), .fa 2 (.t 3), none, []⟩,
         ⟨(some 63), .load false 1 (.t 62), none, []⟩,
         ⟨(some 64), .fa 4 (.t 3), none, []⟩,
         ⟨(some 65), .load false 1 (.t 64), none, []⟩,
         ⟨(some 66), .ia 5 (.t 65) (.k (.int .i64 1)), none, []⟩,
         ⟨(some 67), .load true 5 (.t 66), none, []⟩,
         ⟨(some 68), .cn (.t 1), none, []⟩,
         ⟨(some 69), .cn (.t 2), none, []⟩,
         ⟨(some 70), .qcall n_ref05_Put [(.t 67), (.t 68), (.t 69)] [], none, []⟩,
         ⟨(some 71), .qcall n_ref05_Node [(.t 59), (.t 61), (.t 63), (.t 70)] [], none, []⟩,
         ⟨(some 72), .qcall n_ref05_level [(.t 71)] [], none, []⟩,
         ⟨none, .store 5 (.t 6) (.t 72), none, []⟩])
       (.ret i_ref05_Put_r)))))),
  [.cell 6 true 5], [], false, [], false⟩

def i_ref05_Node_r : List Bool := [false, false, false, false, false, false, false, false, true, false, false, false, false, false, false]
/-- heartwood/heartwoodref05.Node -/
def i_ref05_Node : Ev.Fn := ⟨4, 15, 3,
  (.seq
   (.reg [] [
     ⟨(some 4), .box 0 5 (.t 0), none, []⟩,
     ⟨(some 7), .box 1 5 (.t 3), none, []⟩,
     ⟨(some 8), .new 2 [(.int .i64 0), (.slice none 0 0), (.slice none 0 0), (.slice none 0 0), (.slice none 0 0)], none, []⟩])
   (.seq
    (.reg [] [
      ⟨(some 9), .cn (.t 1), none, []⟩,
      ⟨(some 10), .cn (.t 2), none, []⟩,
      ⟨(some 11), .load true 5 (.t 4), none, []⟩,
      ⟨(some 12), .load true 5 (.t 7), none, []⟩,
      ⟨(some 13), .litd 5 2 [(.int .i64 0), (.slice none 0 0), (.slice none 0 0), (.slice none 0 0), (.slice none 0 0)] [(0, (.t 11)), (1, (.t 12))], none, []⟩,
      ⟨(some 14), .build [(.int .i64 0), (.slice none 0 0), (.slice none 0 0), (.slice none 0 0), (.slice none 0 0)] [(0, 1, (.k (.int .i64 1))), (1, 1, (.t 9)), (2, 1, (.t 10)), (4, 1, (.t 13))], none, []⟩,
      ⟨none, .store 5 (.t 8) (.t 14), none, []⟩])
    (.ret i_ref05_Node_r))),
  [.cell 8 true 5], [], false, [], false⟩

def i_ref05_level_r : List Bool := [false, false, true, false, false, false, false, false, false, false, false, false, false, false, false, false, false, false, false, false, false, false, false, false, false, false, false, false, false, false, false, false, false, false, false, false, false, false, false, false, false, false, false, false, false, false, false, false, false, false, false, false, false, false, false]
/-- heartwood/heartwoodref05.level -/
def i_ref05_level : Ev.Fn := ⟨1, 55, 2,
  (.seq
   (.reg [] [
     ⟨(some 1), .box 0 5 (.t 0), none, []⟩,
     ⟨(some 2), .new 1 [(.int .i64 0), (.slice none 0 0), (.slice none 0 0), (.slice none 0 0), (.slice none 0 0)], none, []⟩])
   (.seq
    (.reg [] [
      ⟨(some 4), .load true 5 (.t 1), none, []⟩,
      ⟨(some 5), .qcall n_ref05_tilt [(.t 4)] [], none, []⟩,
      ⟨(some 3), .mv (.t 5), none, []⟩])
    (.seq
     (.seq
      (.reg [] [
        ⟨(some 6), .mv (.t 3), none, []⟩,
        ⟨(some 7), .bin .plain .eql (.t 6) (.k (.int .i64 2)), none, []⟩])
      (.cond (.t 7)
       (.seq
        (.seq
         (.reg [] [
           ⟨(some 8), .fa 4 (.t 1), none, []⟩,
           ⟨(some 9), .load false 1 (.t 8), none, []⟩,
           ⟨(some 10), .ia 5 (.t 9) (.k (.int .i64 0)), none, []⟩,
           ⟨(some 11), .load true 5 (.t 10), none, []⟩,
           ⟨(some 12), .qcall n_ref05_tilt [(.t 11)] [], none, []⟩,
           ⟨(some 13), .bin .plain .lss (.t 12) (.k (.int .i64 0)), none, []⟩])
         (.cond (.t 13)
          (.reg [] [
            ⟨(some 14), .fa 4 (.t 1), none, []⟩,
            ⟨(some 15), .load false 1 (.t 14), none, []⟩,
            ⟨(some 16), .ia 5 (.t 15) (.k (.int .i64 0)), none, []⟩,
            ⟨(some 17), .load true 5 (.t 16), none, []⟩,
            ⟨(some 18), .qcall n_ref05_left [(.t 17)] [], none, []⟩,
            ⟨(some 19), .fa 1 (.t 1), none, []⟩,
            ⟨(some 20), .load false 1 (.t 19), none, []⟩,
            ⟨(some 21), .fa 2 (.t 1), none, []⟩,
            ⟨(some 22), .load false 1 (.t 21), none, []⟩,
            ⟨(some 23), .fa 4 (.t 1), none, []⟩,
            ⟨(some 24), .load false 1 (.t 23), none, []⟩,
            ⟨(some 25), .ia 5 (.t 24) (.k (.int .i64 1)), none, []⟩,
            ⟨(some 26), .load true 5 (.t 25), none, []⟩,
            ⟨(some 27), .qcall n_ref05_Node [(.t 18), (.t 20), (.t 22), (.t 26)] [], none, []⟩,
            ⟨none, .store 5 (.t 1) (.t 27), none, []⟩])
          .skip))
        (.seq
         (.reg [] [
           ⟨(some 28), .load true 5 (.t 1), none, []⟩,
           ⟨(some 29), .qcall n_ref05_right [(.t 28)] [], none, []⟩,
           ⟨none, .store 5 (.t 2) (.t 29), none, []⟩])
         (.ret i_ref05_level_r)))
       .skip))
     (.seq
      (.seq
       (.reg [] [
         ⟨(some 30), .mv (.t 3), none, []⟩,
         ⟨(some 31), .bin .plain .eql (.t 30) (.k (.int .i64 (-2))), none, []⟩])
       (.cond (.t 31)
        (.seq
         (.seq
          (.reg [] [
            ⟨(some 32), .fa 4 (.t 1), none, []⟩,
            ⟨(some 33), .load false 1 (.t 32), none, []⟩,
            ⟨(some 34), .ia 5 (.t 33) (.k (.int .i64 1)), none, []⟩,
            ⟨(some 35), .load true 5 (.t 34), none, []⟩,
            ⟨(some 36), .qcall n_ref05_tilt [(.t 35)] [], none, []⟩,
            ⟨(some 37), .bin .plain .gtr (.t 36) (.k (.int .i64 0)), none, []⟩])
          (.cond (.t 37)
           (.reg [] [
             ⟨(some 38), .fa 4 (.t 1), none, []⟩,
             ⟨(some 39), .load false 1 (.t 38), none, []⟩,
             ⟨(some 40), .ia 5 (.t 39) (.k (.int .i64 0)), none, []⟩,
             ⟨(some 41), .load true 5 (.t 40), none, []⟩,
             ⟨(some 42), .fa 1 (.t 1), none, []⟩,
             ⟨(some 43), .load false 1 (.t 42), none, []⟩,
             ⟨(some 44), .fa 2 (.t 1), none, []⟩,
             ⟨(some 45), .load false 1 (.t 44), none, []⟩,
             ⟨(some 46), .fa 4 (.t 1), none, []⟩,
             ⟨(some 47), .load false 1 (.t 46), none, []⟩,
             ⟨(some 48), .ia 5 (.t 47) (.k (.int .i64 1)), none, []⟩,
             ⟨(some 49), .load true 5 (.t 48), none, []⟩,
             ⟨(some 50), .qcall n_ref05_right [(.t 49)] [], none, []⟩,
             ⟨(some 51), .qcall n_ref05_Node [(.t 41), (.t 43), (.t 45), (.t 50)] [], none, []⟩,
             ⟨none, .store 5 (.t 1) (.t 51), none, []⟩])
           .skip))
         (.seq
          (.reg [] [
            ⟨(some 52), .load true 5 (.t 1), none, []⟩,
            ⟨(some 53), .qcall n_ref05_left [(.t 52)] [], none, []⟩,
            ⟨none, .store 5 (.t 2) (.t 53), none, []⟩])
          (.ret i_ref05_level_r)))
        .skip))
      (.seq
       (.reg [] [
         ⟨(some 54), .load true 5 (.t 1), none, []⟩,
         ⟨none, .store 5 (.t 2) (.t 54), none, []⟩])
       (.ret i_ref05_level_r)))))),
  [.cell 2 true 5], [], false, [], false⟩

def i_ref05_tilt_r : List Bool := [false, false, true, false, false, false, false, false, false, false, false, false, false, false]
/-- heartwood/heartwoodref05.tilt -/
def i_ref05_tilt : Ev.Fn := ⟨1, 14, 1,
  (.seq
   (.reg [] [
     ⟨(some 1), .box 0 5 (.t 0), none, []⟩,
     ⟨(some 2), .mv (.k (.int .i64 0)), none, []⟩])
   (.seq
    (.reg [] [
      ⟨(some 3), .fa 4 (.t 1), none, []⟩,
      ⟨(some 4), .load false 1 (.t 3), none, []⟩,
      ⟨(some 5), .ia 5 (.t 4) (.k (.int .i64 0)), none, []⟩,
      ⟨(some 6), .load true 5 (.t 5), none, []⟩,
      ⟨(some 7), .qcall n_ref04_Depth [(.t 6)] [], none, []⟩,
      ⟨(some 8), .fa 4 (.t 1), none, []⟩,
      ⟨(some 9), .load false 1 (.t 8), none, []⟩,
      ⟨(some 10), .ia 5 (.t 9) (.k (.int .i64 1)), none, []⟩,
      ⟨(some 11), .load true 5 (.t 10), none, []⟩,
      ⟨(some 12), .qcall n_ref04_Depth [(.t 11)] [], none, []⟩,
      ⟨(some 13), .bin .plain .sub (.t 7) (.t 12), none, []⟩,
      ⟨(some 2), .mv (.t 13), none, []⟩])
    (.ret i_ref05_tilt_r))),
  [.tmp 2], [], false, [], false⟩

def i_ref04_Depth_r : List Bool := [false, false, true, false, false, false, false, false, false, false, false, false, false, false, false, false, false, false, false, false, false, false, false, false, false, false]
/-- heartwood/heartwoodref04.Depth -/
def i_ref04_Depth : Ev.Fn := ⟨1, 26, 1,
  (.seq
   (.reg [] [
     ⟨(some 1), .box 0 5 (.t 0), none, []⟩,
     ⟨(some 2), .mv (.k (.int .i64 0)), none, []⟩])
   (.seq
    (.seq
     (.reg [] [
       ⟨(some 5), .fa 4 (.t 1), none, []⟩,
       ⟨(some 6), .load false 1 (.t 5), none, []⟩,
       ⟨(some 7), .len false (.t 6), none, []⟩,
       ⟨(some 8), .bin .plain .eql (.t 7) (.k (.int .i64 0)), none, []⟩])
     (.cond (.t 8)
      (.seq
       (.reg [] [
         ⟨(some 2), .mv (.k (.int .i64 0)), none, []⟩])
       (.ret i_ref04_Depth_r))
      .skip))
    (.seq
     (.reg [] [
       ⟨(some 9), .fa 4 (.t 1), none, []⟩,
       ⟨(some 10), .load false 1 (.t 9), none, []⟩,
       ⟨(some 11), .ia 5 (.t 10) (.k (.int .i64 0)), none, []⟩,
       ⟨(some 12), .load true 5 (.t 11), none, []⟩,
       ⟨(some 13), .qcall n_ref04_Depth [(.t 12)] [], none, []⟩,
       ⟨(some 3), .mv (.t 13), none, []⟩])
     (.seq
      (.reg [] [
        ⟨(some 14), .fa 4 (.t 1), none, []⟩,
        ⟨(some 15), .load false 1 (.t 14), none, []⟩,
        ⟨(some 16), .ia 5 (.t 15) (.k (.int .i64 1)), none, []⟩,
        ⟨(some 17), .load true 5 (.t 16), none, []⟩,
        ⟨(some 18), .qcall n_ref04_Depth [(.t 17)] [], none, []⟩,
        ⟨(some 4), .mv (.t 18), none, []⟩])
      (.seq
       (.seq
        (.reg [] [
          ⟨(some 19), .mv (.t 3), none, []⟩,
          ⟨(some 20), .mv (.t 4), none, []⟩,
          ⟨(some 21), .bin .plain .gtr (.t 19) (.t 20), none, []⟩])
        (.cond (.t 21)
         (.seq
          (.reg [] [
            ⟨(some 22), .mv (.t 3), none, []⟩,
            ⟨(some 23), .bin .plain .add (.t 22) (.k (.int .i64 1)), none, []⟩,
            ⟨(some 2), .mv (.t 23), none, []⟩])
          (.ret i_ref04_Depth_r))
         .skip))
       (.seq
        (.reg [] [
          ⟨(some 24), .mv (.t 4), none, []⟩,
          ⟨(some 25), .bin .plain .add (.t 24) (.k (.int .i64 1)), none, []⟩,
          ⟨(some 2), .mv (.t 25), none, []⟩])
        (.ret i_ref04_Depth_r))))))),
  [.tmp 2], [], false, [], false⟩

def i_ref05_left_r : List Bool := [false, false, true, false, false, false, false, false, false, false, false, false, false, false, false, false, false, false, false, false, false, false, false, false, false, false, false, false, false, false]
/-- heartwood/heartwoodref05.left -/
def i_ref05_left : Ev.Fn := ⟨1, 30, 3,
  (.seq
   (.reg [] [
     ⟨(some 1), .box 0 5 (.t 0), none, []⟩,
     ⟨(some 2), .new 1 [(.int .i64 0), (.slice none 0 0), (.slice none 0 0), (.slice none 0 0), (.slice none 0 0)], none, []⟩])
   (.seq
    (.reg [] [
      ⟨(some 4), .fa 4 (.t 1), none, []⟩,
      ⟨(some 5), .load false 1 (.t 4), none, []⟩,
      ⟨(some 6), .ia 5 (.t 5) (.k (.int .i64 1)), none, []⟩,
      ⟨(some 7), .load true 5 (.t 6), none, []⟩,
      ⟨(some 3), .new 2 [(.int .i64 0), (.slice none 0 0), (.slice none 0 0), (.slice none 0 0), (.slice none 0 0)], none, []⟩,
      ⟨none, .store 5 (.t 3) (.t 7), none, []⟩])
    (.seq
     (.reg [] [
       ⟨(some 8), .fa 4 (.t 1), none, []⟩,
       ⟨(some 9), .load false 1 (.t 8), none, []⟩,
       ⟨(some 10), .ia 5 (.t 9) (.k (.int .i64 0)), none, []⟩,
       ⟨(some 11), .load true 5 (.t 10), none, []⟩,
       ⟨(some 12), .fa 1 (.t 1), none, []⟩,
       ⟨(some 13), .load false 1 (.t 12), none, []⟩,
       ⟨(some 14), .fa 2 (.t 1), none, []⟩,
       ⟨(some 15), .load false 1 (.t 14), none, []⟩,
       ⟨(some 16), .fa 4 (.t 3), none, []⟩,
       ⟨(some 17), .load false 1 (.t 16), none, []⟩,
       ⟨(some 18), .ia 5 (.t 17) (.k (.int .i64 0)), none, []⟩,
       ⟨(some 19), .load true 5 (.t 18), none, []⟩,
       ⟨(some 20), .qcall n_ref05_Node [(.t 11), (.t 13), (.t 15), (.t 19)] [], none, []⟩,
       ⟨(some 21), .fa 1 (.t 3), none, []⟩,
       ⟨(some 22), .load false 1 (.t 21), none, []⟩,
       ⟨(some 23), .fa 2 (.t 3), none, []⟩,
       ⟨(some 24), .load false 1 (.t 23), none, []⟩,
       ⟨(some 25), .fa 4 (.t 3), none, []⟩,
       ⟨(some 26), .load false 1 (.t 25), none, []⟩,
       ⟨(some 27), .ia 5 (.t 26) (.k (.int .i64 1)), none, []⟩,
       ⟨(some 28), .load true 5 (.t 27), none, []⟩,
       ⟨(some 29), .qcall n_ref05_Node [(.t 20), (.t 22), (.t 24), (.t 28)] [], none, []⟩,
       ⟨none, .store 5 (.t 2) (.t 29), none, []⟩])
     (.ret i_ref05_left_r)))),
  [.cell 2 true 5], [], false, [], false⟩

def i_ref05_right_r : List Bool := [false, false, true, false, false, false, false, false, false, false, false, false, false, false, false, false, false, false, false, false, false, false, false, false, false, false, false, false, false, false]
/-- heartwood/heartwoodref05.right -/
def i_ref05_right : Ev.Fn := ⟨1, 30, 3,
  (.seq
   (.reg [] [
     ⟨(some 1), .box 0 5 (.t 0), none, []⟩,
     ⟨(some 2), .new 1 [(.int .i64 0), (.slice none 0 0), (.slice none 0 0), (.slice none 0 0), (.slice none 0 0)], none, []⟩])
   (.seq
    (.reg [] [
      ⟨(some 4), .fa 4 (.t 1), none, []⟩,
      ⟨(some 5), .load false 1 (.t 4), none, []⟩,
      ⟨(some 6), .ia 5 (.t 5) (.k (.int .i64 0)), none, []⟩,
      ⟨(some 7), .load true 5 (.t 6), none, []⟩,
      ⟨(some 3), .new 2 [(.int .i64 0), (.slice none 0 0), (.slice none 0 0), (.slice none 0 0), (.slice none 0 0)], none, []⟩,
      ⟨none, .store 5 (.t 3) (.t 7), none, []⟩])
    (.seq
     (.reg [] [
       ⟨(some 8), .fa 4 (.t 3), none, []⟩,
       ⟨(some 9), .load false 1 (.t 8), none, []⟩,
       ⟨(some 10), .ia 5 (.t 9) (.k (.int .i64 0)), none, []⟩,
       ⟨(some 11), .load true 5 (.t 10), none, []⟩,
       ⟨(some 12), .fa 1 (.t 3), none, []⟩,
       ⟨(some 13), .load false 1 (.t 12), none, []⟩,
       ⟨(some 14), .fa 2 (.t 3), none, []⟩,
       ⟨(some 15), .load false 1 (.t 14), none, []⟩,
       ⟨(some 16), .fa 4 (.t 3), none, []⟩,
       ⟨(some 17), .load false 1 (.t 16), none, []⟩,
       ⟨(some 18), .ia 5 (.t 17) (.k (.int .i64 1)), none, []⟩,
       ⟨(some 19), .load true 5 (.t 18), none, []⟩,
       ⟨(some 20), .fa 1 (.t 1), none, []⟩,
       ⟨(some 21), .load false 1 (.t 20), none, []⟩,
       ⟨(some 22), .fa 2 (.t 1), none, []⟩,
       ⟨(some 23), .load false 1 (.t 22), none, []⟩,
       ⟨(some 24), .fa 4 (.t 1), none, []⟩,
       ⟨(some 25), .load false 1 (.t 24), none, []⟩,
       ⟨(some 26), .ia 5 (.t 25) (.k (.int .i64 1)), none, []⟩,
       ⟨(some 27), .load true 5 (.t 26), none, []⟩,
       ⟨(some 28), .qcall n_ref05_Node [(.t 19), (.t 21), (.t 23), (.t 27)] [], none, []⟩,
       ⟨(some 29), .qcall n_ref05_Node [(.t 11), (.t 13), (.t 15), (.t 28)] [], none, []⟩,
       ⟨none, .store 5 (.t 2) (.t 29), none, []⟩])
     (.ret i_ref05_right_r)))),
  [.cell 2 true 5], [], false, [], false⟩

def i_ref04_Copy_r : List Bool := [false, false, true, false, false, false, false, false, false, false, false, false, false, false, false, false, false, false, false, false, false, false, false, false, false, false, false, false, false, false, false, false, false, false, false, false, false, false, false]
def i_ref04_Copy_j1 : List Bool := [false, true, true, true, true, false, false, false, false, false, false, false, false, false, false, false, false, false, false, false, false, false, false, false, false, false, false, false, false, false, false, false, false, false, false, false, false, false, false]
def i_ref04_Copy_k0 : List Bool := [false, true, true, true, true, false, false, false, false, false, false, false, false, false, false, false, false, false, false, false, false, false, false, false, false, false, false, false, false, false, false, false, false, false, false, false, false, false, false]
def i_ref04_Copy_j0 : List Bool := [false, false, true, true, false, false, false, false, false, false, false, false, false, false, false, false, false, false, false, false, false, false, false, false, false, false, false, false, false, false, false, false, false, false, false, false, false, false, false]
abbrev s_ref04_Copy_R (t2 : AV) (h : Heap) : St := ⟨[.undef, .undef, t2, .undef, .undef, .undef, .undef, .undef, .undef, .undef, .undef, .undef, .undef, .undef, .undef, .undef, .undef, .undef, .undef, .undef, .undef, .undef, .undef, .undef, .undef, .undef, .undef, .undef, .undef, .undef, .undef, .undef, .undef, .undef, .undef, .undef, .undef, .undef, .undef], h⟩
abbrev s_ref04_Copy_K0 (t1 t2 t3 t4 : AV) (h : Heap) : St := ⟨[.undef, t1, t2, t3, t4, .undef, .undef, .undef, .undef, .undef, .undef, .undef, .undef, .undef, .undef, .undef, .undef, .undef, .undef, .undef, .undef, .undef, .undef, .undef, .undef, .undef, .undef, .undef, .undef, .undef, .undef, .undef, .undef, .undef, .undef, .undef, .undef, .undef, .undef], h⟩
def i_ref04_Copy_b0 : IR :=
  (.seq
   (.seq
    (.reg [] [
      ⟨(some 20), .mv (.t 4), none, []⟩,
      ⟨(some 21), .fa 4 (.t 1), none, []⟩,
      ⟨(some 22), .load false 1 (.t 21), none, []⟩,
      ⟨(some 23), .len false (.t 22), none, []⟩,
      ⟨(some 24), .bin .plain .lss (.t 20) (.t 23), none, []⟩])
    (.cond (.t 24)
     .skip
     (.exit 0 i_ref04_Copy_j0)))
   (.seq
    (.block 1 i_ref04_Copy_j1
     (.reg [(1, 7)] [
       ⟨(some 27), .fa 4 (.t 3), none, []⟩,
       ⟨(some 28), .load false 1 (.t 27), none, []⟩,
       ⟨(some 29), .fa 4 (.t 1), none, []⟩,
       ⟨(some 30), .load false 1 (.t 29), none, []⟩,
       ⟨(some 31), .mv (.t 4), none, []⟩,
       ⟨(some 32), .ia 5 (.t 30) (.t 31), none, []⟩,
       ⟨(some 33), .load true 5 (.t 32), none, []⟩,
       ⟨(some 34), .qcall n_ref04_Copy [(.t 33)] [], none, [33]⟩,
       ⟨(some 35), .litd 5 1 [(.int .i64 0), (.slice none 0 0), (.slice none 0 0), (.slice none 0 0), (.slice none 0 0)] [(0, (.t 34))], none, []⟩,
       ⟨(some 36), .app 6 ty_api_Tree 5 104 (.t 28) (.t 35), none, []⟩,
       ⟨(some 37), .fa 4 (.t 3), none, []⟩,
       ⟨none, .store 1 (.t 37) (.t 36), none, []⟩]))
    (.reg [] [
      ⟨(some 25), .mv (.t 4), none, []⟩,
      ⟨(some 26), .bin .plain .add (.t 25) (.k (.int .i64 1)), none, []⟩,
      ⟨(some 4), .mv (.t 26), none, []⟩])))

abbrev s_ref04_Copy_J0 (t2 t3 : AV) (h : Heap) : St := ⟨[.undef, .undef, t2, t3, .undef, .undef, .undef, .undef, .undef, .undef, .undef, .undef, .undef, .undef, .undef, .undef, .undef, .undef, .undef, .undef, .undef, .undef, .undef, .undef, .undef, .undef, .undef, .undef, .undef, .undef, .undef, .undef, .undef, .undef, .undef, .undef, .undef, .undef, .undef], h⟩
/-- heartwood/heartwoodref04.Copy -/
def i_ref04_Copy : Ev.Fn := ⟨1, 39, 7,
  (.seq
   (.reg [] [
     ⟨(some 1), .box 0 5 (.t 0), none, []⟩,
     ⟨(some 2), .new 1 [(.int .i64 0), (.slice none 0 0), (.slice none 0 0), (.slice none 0 0), (.slice none 0 0)], none, []⟩])
   (.seq
    (.reg [(1, 2), (2, 4), (1, 5), (1, 6), (2, 6), (4, 6), (5, 6), (2, 8), (5, 8), (6, 8), (1, 9), (1, 10), (2, 10), (4, 10), (5, 10), (6, 10), (8, 10), (9, 10), (2, 12), (5, 12), (6, 12), (9, 12), (10, 12), (1, 13), (1, 15), (2, 15), (4, 15), (5, 15), (6, 15), (8, 15), (9, 15), (10, 15), (12, 15), (13, 15), (14, 15)] [
      ⟨(some 5), .fa 0 (.t 1), none, []⟩,
      ⟨(some 6), .load false 1 (.t 5), none, []⟩,
      ⟨(some 7), .lit 2 ty_uint8 1 0 [(.int .u8 0)] [], none, []⟩,
      ⟨(some 8), .fa 1 (.t 1), none, []⟩,
      ⟨(some 9), .load false 1 (.t 8), none, []⟩,
      ⟨(some 10), .app 2 ty_uint8 1 1 (.t 7) (.t 9), none, []⟩,
      ⟨(some 11), .lit 3 ty_uint8 1 0 [(.int .u8 0)] [], none, []⟩,
      ⟨(some 12), .fa 2 (.t 1), none, []⟩,
      ⟨(some 13), .load false 1 (.t 12), none, []⟩,
      ⟨(some 14), .app 3 ty_uint8 1 1 (.t 11) (.t 13), none, []⟩,
      ⟨(some 15), .lit 4 ty_uint8 1 0 [(.int .u8 0)] [], none, []⟩,
      ⟨(some 16), .fa 3 (.t 1), none, []⟩,
      ⟨(some 17), .load false 1 (.t 16), none, []⟩,
      ⟨(some 18), .app 4 ty_uint8 1 1 (.t 15) (.t 17), none, []⟩,
      ⟨(some 19), .build [(.int .i64 0), (.slice none 0 0), (.slice none 0 0), (.slice none 0 0), (.slice none 0 0)] [(0, 1, (.t 6)), (1, 1, (.t 10)), (2, 1, (.t 14)), (3, 1, (.t 18))], none, [10, 14, 18]⟩,
      ⟨(some 3), .new 5 [(.int .i64 0), (.slice none 0 0), (.slice none 0 0), (.slice none 0 0), (.slice none 0 0)], none, []⟩,
      ⟨none, .store 5 (.t 3) (.t 19), none, []⟩])
    (.seq
     (.seq
      (.reg [] [
        ⟨(some 4), .mv (.k (.int .i64 0)), none, []⟩])
      (.block 0 i_ref04_Copy_j0
       (.loop i_ref04_Copy_k0 i_ref04_Copy_b0)))
     (.seq
      (.reg [] [
        ⟨(some 38), .load true 5 (.t 3), none, []⟩,
        ⟨none, .store 5 (.t 2) (.t 38), none, []⟩])
      (.ret i_ref04_Copy_r))))),
  [.cell 2 true 5], [], false, [], false⟩

def i_scan_Range_v1_r : List Bool := [false, false, false, false, true, true, false, false, false, false, false, false, false, false, false, false, false, false, false, false, false, false, false, false, false, false, false, false, false, false, false, false, false, false, false, false, true]
def i_scan_Range_v1_j1 : List Bool := [false, false, false, true, false, false, true, false, false, false, false, false, false, false, true, true, true, false, false, false, false, false, false, false, false, false, false, false, false, false, false, false, false, false, false, false, true]
def i_scan_Range_v1_k0 : List Bool := [false, false, false, true, false, false, true, false, false, false, false, false, false, false, true, true, true, false, false, false, false, false, false, false, false, false, false, false, false, false, false, false, false, false, false, false, true]
def i_scan_Range_v1_j0 : List Bool := [false, false, false, false, false, false, true, false, false, false, false, false, false, false, false, false, false, false, false, false, false, false, false, false, false, false, false, false, false, false, false, false, false, false, false, false, true]
abbrev s_scan_Range_v1_R (t4 t5 : AV) (h : Heap) : St := ⟨[.undef, .undef, .undef, .undef, t4, t5, .undef, .undef, .undef, .undef, .undef, .undef, .undef, .undef, .undef, .undef, .undef, .undef, .undef, .undef, .undef, .undef, .undef, .undef, .undef, .undef, .undef, .undef, .undef, .undef, .undef, .undef, .undef, .undef, .undef, .undef], h⟩
abbrev s_scan_Range_v1_K0 (t3 t6 t14 t15 t16 : AV) (h : Heap) : St := ⟨[.undef, .undef, .undef, t3, .undef, .undef, t6, .undef, .undef, .undef, .undef, .undef, .undef, .undef, t14, t15, t16, .undef, .undef, .undef, .undef, .undef, .undef, .undef, .undef, .undef, .undef, .undef, .undef, .undef, .undef, .undef, .undef, .undef, .undef, .undef], h⟩
def i_scan_Range_v1_b0 : IR :=
  (.seq
   (.reg [] [
     ⟨(some 17), .bin .plain .lss (.t 16) (.t 15), none, []⟩])
   (.seq
    (.cond (.t 17)
     .skip
     (.exit 0 i_scan_Range_v1_j0))
    (.seq
     (.block 1 i_scan_Range_v1_j1
      (.seq
       (.reg [] [
         ⟨(some 18), .ia 5 (.t 14) (.t 16), none, []⟩,
         ⟨(some 19), .load true 5 (.t 18), none, []⟩,
         ⟨(some 8), .new 2 [(.int .i64 0), (.slice none 0 0), (.slice none 0 0), (.slice none 0 0), (.slice none 0 0)], none, []⟩,
         ⟨none, .store 5 (.t 8) (.t 19), none, []⟩])
       (.seq
        (.reg [] [
          ⟨(some 20), .load true 3 (.t 3), none, []⟩,
          ⟨(some 21), .fa 1 (.t 8), none, []⟩,
          ⟨(some 22), .load false 1 (.t 21), none, []⟩,
          ⟨(some 23), .qcall n_scan_In [(.t 20), (.t 22)] [], none, []⟩])
        (.cond (.t 23)
         (.reg [] [
           ⟨(some 24), .mv (.t 6), none, []⟩,
           ⟨(some 25), .fa 1 (.t 8), none, []⟩,
           ⟨(some 26), .load false 1 (.t 25), none, []⟩,
           ⟨(some 27), .qcall n_slices_Clone_sl_byte_byte_v1 [(.t 26)] [], none, []⟩,
           ⟨(some 28), .fa 2 (.t 8), none, []⟩,
           ⟨(some 29), .load false 1 (.t 28), none, []⟩,
           ⟨(some 30), .qcall n_slices_Clone_sl_byte_byte_v1 [(.t 29)] [], none, []⟩,
           ⟨(some 31), .build [(.slice none 0 0), (.slice none 0 0)] [(0, 1, (.t 27)), (1, 1, (.t 30))], none, []⟩,
           ⟨(some 32), .litd 2 1 [(.slice none 0 0), (.slice none 0 0)] [(0, (.t 31))], none, []⟩,
           ⟨(some 33), .app 3 ty_api_Pair 2 48 (.t 24) (.t 32), none, []⟩,
           ⟨(some 6), .mv (.t 33), none, []⟩])
         .skip))))
     (.reg [] [
       ⟨(some 34), .bin .plain .add (.t 16) (.k (.int .i64 1)), none, []⟩,
       ⟨(some 16), .mv (.t 34), none, []⟩]))))

abbrev s_scan_Range_v1_J0 (t6 : AV) (h : Heap) : St := ⟨[.undef, .undef, .undef, .undef, .undef, .undef, t6, .undef, .undef, .undef, .undef, .undef, .undef, .undef, .undef, .undef, .undef, .undef, .undef, .undef, .undef, .undef, .undef, .undef, .undef, .undef, .undef, .undef, .undef, .undef, .undef, .undef, .undef, .undef, .undef, .undef], h⟩
/-- heartwood/scan.Range -/
def i_scan_Range_v1 : Ev.Fn := ⟨2, 36, 4,
  (.seq
   (.reg [] [
     ⟨(some 2), .box 0 5 (.t 0), none, []⟩,
     ⟨(some 3), .box 1 3 (.t 1), none, []⟩,
     ⟨(some 4), .cn (.k (.slice none 0 0)), none, []⟩,
     ⟨(some 5), .mv (.k .nilIface), none, []⟩])
   (.seq
    (.seq
     (.reg [] [
       ⟨(some 9), .load true 5 (.t 2), none, []⟩,
       ⟨(some 10), .qcall n_avl_Is [(.t 9)] [], none, []⟩,
       ⟨(some 11), .un .not (.t 10), none, []⟩])
     (.cond (.t 11)
      (.seq
       (.reg [] [
         ⟨(some 12), .mki ty_api_Code (.k (.int .i64 3)), none, []⟩,
         ⟨(some 4), .cn (.k (.slice none 0 0)), none, []⟩,
         ⟨(some 5), .mv (.t 12), none, []⟩])
       (.ret i_scan_Range_v1_r))
      .skip))
    (.seq
     (.reg [] [
       ⟨(some 6), .mv (.k (.slice none 0 0)), none, []⟩])
     (.seq
      (.seq
       (.reg [] [
         ⟨(some 13), .load true 5 (.t 2), none, []⟩,
         ⟨(some 14), .qcall n_tree_List [(.t 13)] [], none, []⟩,
         ⟨(some 15), .len false (.t 14), none, []⟩,
         ⟨(some 16), .mv (.k (.int .i64 0)), none, []⟩])
       (.block 0 i_scan_Range_v1_j0
        (.loop i_scan_Range_v1_k0 i_scan_Range_v1_b0)))
      (.seq
       (.reg [] [
         ⟨(some 35), .mv (.t 6), none, [6]⟩,
         ⟨(some 4), .mv (.t 35), none, [35]⟩,
         ⟨(some 5), .mv (.k .nilIface), none, []⟩])
       (.ret i_scan_Range_v1_r)))))),
  [.tmp 4, .tmp 5], [], false, [], true⟩

def i_avl_Is_r : List Bool := [false, false, true, false, false, false, false, false, false, false, false, false, false, false, false, false, false, false, false, false, false, false, false, false, false, false, false, false, false, false, false, false, false, false, false, false, false]
def i_avl_Is_j1 : List Bool := [false, true, false, true, true, false, false, false, false, false, false, false, false, false, false, false, false, false, false, false, false, false, false, false, false, false, false, false, false, false, false, false, false, false, false, false, false]
def i_avl_Is_k0 : List Bool := [false, true, false, true, true, false, false, false, false, false, false, false, false, false, false, false, false, false, false, false, false, false, false, false, false, false, false, false, false, false, false, false, false, false, false, false, false]
def i_avl_Is_j0 : List Bool := [false, true, false, false, false, false, false, false, false, false, false, false, false, false, false, false, false, false, false, false, false, false, false, false, false, false, false, false, false, false, false, false, false, false, false, false, false]
abbrev s_avl_Is_R (t2 : AV) (h : Heap) : St := ⟨[.undef, .undef, t2, .undef, .undef, .undef, .undef, .undef, .undef, .undef, .undef, .undef, .undef, .undef, .undef, .undef, .undef, .undef, .undef, .undef, .undef, .undef, .undef, .undef, .undef, .undef, .undef, .undef, .undef, .undef, .undef, .undef, .undef, .undef, .undef, .undef, .undef], h⟩
abbrev s_avl_Is_K0 (t1 t3 t4 : AV) (h : Heap) : St := ⟨[.undef, t1, .undef, t3, t4, .undef, .undef, .undef, .undef, .undef, .undef, .undef, .undef, .undef, .undef, .undef, .undef, .undef, .undef, .undef, .undef, .undef, .undef, .undef, .undef, .undef, .undef, .undef, .undef, .undef, .undef, .undef, .undef, .undef, .undef, .undef, .undef], h⟩
def i_avl_Is_b0 : IR :=
  (.seq
   (.seq
    (.reg [] [
      ⟨(some 12), .mv (.t 4), none, []⟩,
      ⟨(some 13), .cn (.t 3), none, []⟩,
      ⟨(some 14), .len false (.t 13), none, []⟩,
      ⟨(some 15), .bin .plain .lss (.t 12) (.t 14), none, []⟩])
    (.cond (.t 15)
     .skip
     (.exit 0 i_avl_Is_j0)))
   (.seq
    (.block 1 i_avl_Is_j1
     (.seq
      (.reg [] [
        ⟨(some 18), .cn (.t 3), none, []⟩,
        ⟨(some 19), .mv (.t 4), none, []⟩,
        ⟨(some 20), .bin .plain .sub (.t 19) (.k (.int .i64 1)), none, []⟩,
        ⟨(some 21), .ia 5 (.t 18) (.t 20), none, []⟩,
        ⟨(some 22), .fa 1 (.t 21), none, []⟩,
        ⟨(some 23), .load false 1 (.t 22), none, []⟩,
        ⟨(some 24), .cn (.t 3), none, []⟩,
        ⟨(some 25), .mv (.t 4), none, []⟩,
        ⟨(some 26), .ia 5 (.t 24) (.t 25), none, []⟩,
        ⟨(some 27), .fa 1 (.t 26), none, []⟩,
        ⟨(some 28), .load false 1 (.t 27), none, []⟩,
        ⟨(some 29), .qcall n_bytes_Compare [(.t 23), (.t 28)] [], none, []⟩,
        ⟨(some 30), .bin .plain .geq (.t 29) (.k (.int .i64 0)), none, []⟩])
      (.cond (.t 30)
       (.seq
        (.reg [] [
          ⟨(some 2), .mv (.k (.bool false)), none, []⟩])
        (.ret i_avl_Is_r))
       .skip)))
    (.reg [] [
      ⟨(some 16), .mv (.t 4), none, []⟩,
      ⟨(some 17), .bin .plain .add (.t 16) (.k (.int .i64 1)), none, []⟩,
      ⟨(some 4), .mv (.t 17), none, []⟩])))

abbrev s_avl_Is_J0 (t1 : AV) (h : Heap) : St := ⟨[.undef, t1, .undef, .undef, .undef, .undef, .undef, .undef, .undef, .undef, .undef, .undef, .undef, .undef, .undef, .undef, .undef, .undef, .undef, .undef, .undef, .undef, .undef, .undef, .undef, .undef, .undef, .undef, .undef, .undef, .undef, .undef, .undef, .undef, .undef, .undef, .undef], h⟩
/-- heartwood/avl.Is -/
def i_avl_Is : Ev.Fn := ⟨1, 37, 1,
  (.seq
   (.reg [] [
     ⟨(some 1), .box 0 5 (.t 0), none, []⟩,
     ⟨(some 2), .mv (.k (.bool false)), none, []⟩])
   (.seq
    (.seq
     (.reg [] [
       ⟨(some 7), .load true 5 (.t 1), none, []⟩,
       ⟨(some 8), .qcall n_tree_Full [(.t 7)] [], none, []⟩,
       ⟨(some 9), .un .not (.t 8), none, []⟩])
     (.cond (.t 9)
      (.seq
       (.reg [] [
         ⟨(some 2), .mv (.k (.bool false)), none, []⟩])
       (.ret i_avl_Is_r))
      .skip))
    (.seq
     (.reg [] [
       ⟨(some 10), .load true 5 (.t 1), none, []⟩,
       ⟨(some 11), .qcall n_tree_List [(.t 10)] [], none, []⟩,
       ⟨(some 3), .cn (.t 11), none, []⟩])
     (.seq
      (.seq
       (.reg [] [
         ⟨(some 4), .mv (.k (.int .i64 1)), none, []⟩])
       (.block 0 i_avl_Is_j0
        (.loop i_avl_Is_k0 i_avl_Is_b0)))
      (.seq
       (.reg [] [
         ⟨(some 32), .load true 5 (.t 1), none, []⟩,
         ⟨(some 33), .qcall n_avl_even [(.t 32)] [], none, []⟩,
         ⟨(some 31), .mv (.t 33), none, []⟩,
         ⟨(some 34), .ext 0 (.t 31), none, []⟩,
         ⟨(some 35), .ext 1 (.t 31), none, []⟩,
         ⟨(some 5), .mv (.t 34), none, []⟩,
         ⟨(some 6), .mv (.t 35), none, []⟩])
       (.seq
        (.reg [] [
          ⟨(some 36), .mv (.t 6), none, []⟩,
          ⟨(some 2), .mv (.t 36), none, []⟩])
        (.ret i_avl_Is_r))))))),
  [.tmp 2], [], false, [], false⟩

def i_tree_Full_r : List Bool := [false, false, true, false, false, false, false, false, false, false]
/-- heartwood/tree.Full -/
def i_tree_Full : Ev.Fn := ⟨1, 10, 1,
  (.seq
   (.reg [] [
     ⟨(some 1), .box 0 5 (.t 0), none, []⟩,
     ⟨(some 2), .mv (.k (.bool false)), none, []⟩])
   (.seq
    (.reg [] [
      ⟨(some 3), .load true 5 (.t 1), none, []⟩,
      ⟨(some 4), .qcall n_tree_Check [(.t 3)] [], none, []⟩,
      ⟨(some 5), .bin (.iface ty_api_Code true) .eql (.t 4) (.k .nilIface), none, []⟩,
      ⟨(some 6), .mv (.t 5), none, []⟩,
      ⟨(some 7), .load true 5 (.t 1), (some (6, true)), []⟩,
      ⟨(some 8), .qcall n_tree_full [(.t 7)] [], (some (6, true)), []⟩,
      ⟨(some 9), .pick (.t 6) (.t 8) (.k (.bool false)), none, []⟩,
      ⟨(some 2), .mv (.t 9), none, []⟩])
    (.ret i_tree_Full_r))),
  [.tmp 2], [], false, [], false⟩

def i_tree_Check_r : List Bool := [false, false, true, false, false, false, false, false, false, false, false, false]
def i_tree_Check_j0 : List Bool := [false, false, false, false, false, false, false, false, false, false, false, false]
/-- heartwood/tree.Check -/
def i_tree_Check : Ev.Fn := ⟨1, 12, 1,
  (.seq
   (.reg [] [
     ⟨(some 1), .box 0 5 (.t 0), none, []⟩,
     ⟨(some 2), .mv (.k .nilIface), none, []⟩])
   (.seq
    (.block 0 i_tree_Check_j0
     (.seq
      (.reg [] [
        ⟨(some 4), .load true 5 (.t 1), none, []⟩,
        ⟨(some 5), .qcall n_tree_deep [(.t 4), (.k (.int .i64 64))] [], none, []⟩,
        ⟨(some 3), .mv (.t 5), none, []⟩])
      (.cond (.t 3)
       (.seq
        (.reg [] [
          ⟨(some 6), .mki ty_api_Code (.k (.int .i64 5)), none, []⟩,
          ⟨(some 2), .mv (.t 6), none, []⟩])
        (.ret i_tree_Check_r))
       (.seq
        (.reg [] [
          ⟨(some 8), .load true 5 (.t 1), none, []⟩,
          ⟨(some 9), .qcall n_tree_formed [(.t 8)] [], none, []⟩,
          ⟨(some 10), .un .not (.t 9), none, []⟩,
          ⟨(some 7), .mv (.t 10), none, []⟩])
        (.cond (.t 7)
         (.seq
          (.reg [] [
            ⟨(some 11), .mki ty_api_Code (.k (.int .i64 3)), none, []⟩,
            ⟨(some 2), .mv (.t 11), none, []⟩])
          (.ret i_tree_Check_r))
         .skip)))))
    (.seq
     (.reg [] [
       ⟨(some 2), .mv (.k .nilIface), none, []⟩])
     (.ret i_tree_Check_r)))),
  [.tmp 2], [], false, [], false⟩

def i_tree_deep_r : List Bool := [false, false, false, false, true, false, false, false, false, false, false, false, false, false, false, false, false, false, false, false, false, false, false, false, false, false, false, false, false]
/-- heartwood/tree.deep -/
def i_tree_deep : Ev.Fn := ⟨2, 29, 2,
  (.seq
   (.reg [] [
     ⟨(some 2), .box 0 5 (.t 0), none, []⟩,
     ⟨(some 3), .box 1 1 (.t 1), none, []⟩,
     ⟨(some 4), .mv (.k (.bool false)), none, []⟩])
   (.seq
    (.reg [] [
      ⟨(some 6), .fa 0 (.t 2), none, []⟩,
      ⟨(some 7), .load false 1 (.t 6), none, []⟩,
      ⟨(some 8), .bin .plain .eql (.t 7) (.k (.int .i64 1)), none, []⟩,
      ⟨(some 9), .mv (.t 8), none, []⟩,
      ⟨(some 10), .fa 0 (.t 2), (some (9, false)), []⟩,
      ⟨(some 11), .load false 1 (.t 10), (some (9, false)), []⟩,
      ⟨(some 12), .bin .plain .eql (.t 11) (.k (.int .i64 2)), (some (9, false)), []⟩,
      ⟨(some 13), .pick (.t 9) (.k (.bool true)) (.t 12), none, []⟩,
      ⟨(some 14), .mv (.t 13), none, []⟩,
      ⟨(some 15), .fa 4 (.t 2), (some (14, false)), []⟩,
      ⟨(some 16), .load false 1 (.t 15), (some (14, false)), []⟩,
      ⟨(some 17), .len false (.t 16), (some (14, false)), []⟩,
      ⟨(some 18), .bin .plain .gtr (.t 17) (.k (.int .i64 0)), (some (14, false)), []⟩,
      ⟨(some 19), .pick (.t 14) (.k (.bool true)) (.t 18), none, []⟩,
      ⟨(some 5), .mv (.t 19), none, []⟩])
    (.seq
     (.seq
      (.reg [] [
        ⟨(some 20), .mv (.t 5), none, []⟩,
        ⟨(some 21), .mv (.t 20), none, []⟩,
        ⟨(some 22), .load false 1 (.t 3), (some (21, true)), []⟩,
        ⟨(some 23), .bin .plain .lss (.t 22) (.k (.int .i64 1)), (some (21, true)), []⟩,
        ⟨(some 24), .pick (.t 21) (.t 23) (.k (.bool false)), none, []⟩])
      (.cond (.t 24)
       (.seq
        (.reg [] [
          ⟨(some 4), .mv (.k (.bool true)), none, []⟩])
        (.ret i_tree_deep_r))
       .skip))
     (.seq
      (.reg [] [
        ⟨(some 25), .fa 4 (.t 2), none, []⟩,
        ⟨(some 26), .load false 1 (.t 25), none, []⟩,
        ⟨(some 27), .mkf n_tree_deep_1 [(.t 3)], none, []⟩,
        ⟨(some 28), .call n_slices_ContainsFunc_sl_api_Tree_api_Tree [(.t 26), (.t 27)] [], none, []⟩,
        ⟨(some 4), .mv (.t 28), none, []⟩])
      (.ret i_tree_deep_r))))),
  [.tmp 4], [], false, [], false⟩

def i_tree_deep_1_r : List Bool := [false, false, false, true, false, false, false, false]
/-- heartwood/tree.deep$1 -/
def i_tree_deep_1 : Ev.Fn := ⟨2, 8, 1,
  (.seq
   (.reg [] [
     ⟨(some 2), .box 0 5 (.t 0), none, []⟩,
     ⟨(some 3), .mv (.k (.bool false)), none, []⟩])
   (.seq
    (.reg [] [
      ⟨(some 4), .load true 5 (.t 2), none, []⟩,
      ⟨(some 5), .load false 1 (.t 1), none, []⟩,
      ⟨(some 6), .bin .plain .sub (.t 5) (.k (.int .i64 1)), none, []⟩,
      ⟨(some 7), .qcall n_tree_deep [(.t 4), (.t 6)] [], none, [4]⟩,
      ⟨(some 3), .mv (.t 7), none, []⟩])
    (.ret i_tree_deep_1_r))),
  [.tmp 3], [], false, [], false⟩

def i_slices_ContainsFunc_sl_api_Tree_api_Tree_r : List Bool := [false, false, false, false, true, false, false, false, false]
/-- slices.ContainsFunc[[]heartwood/api.Tree,heartwood/api.Tree] -/
def i_slices_ContainsFunc_sl_api_Tree_api_Tree : Ev.Fn := ⟨2, 9, 0,
  (.seq
   (.reg [] [
     ⟨(some 4), .mv (.k (.bool false)), none, []⟩])
   (.seq
    (.reg [] [
      ⟨(some 5), .cn (.t 0), none, []⟩,
      ⟨(some 6), .mv (.t 1), none, []⟩,
      ⟨(some 7), .call n_slices_IndexFunc_sl_api_Tree_api_Tree [(.t 5), (.t 6)] [], none, []⟩,
      ⟨(some 8), .bin .plain .geq (.t 7) (.k (.int .i64 0)), none, []⟩,
      ⟨(some 4), .mv (.t 8), none, []⟩])
    (.ret i_slices_ContainsFunc_sl_api_Tree_api_Tree_r))),
  [.tmp 4], [], false, [], false⟩

def i_slices_IndexFunc_sl_api_Tree_api_Tree_r : List Bool := [false, false, false, false, true, false, false, false, false, false, false, false, false, false, false, false, false, false, false]
def i_slices_IndexFunc_sl_api_Tree_api_Tree_j1 : List Bool := [true, true, false, false, false, false, false, true, true, false, false, false, false, false, false, false, false, false, false]
def i_slices_IndexFunc_sl_api_Tree_api_Tree_k0 : List Bool := [true, true, false, false, false, false, false, true, true, false, false, false, false, false, false, false, false, false, false]
def i_slices_IndexFunc_sl_api_Tree_api_Tree_j0 : List Bool := [false, false, false, false, false, false, false, false, false, false, false, false, false, false, false, false, false, false, false]
abbrev s_slices_IndexFunc_sl_api_Tree_api_Tree_R (t4 : AV) (h : Heap) : St := ⟨[.undef, .undef, .undef, .undef, t4, .undef, .undef, .undef, .undef, .undef, .undef, .undef, .undef, .undef, .undef, .undef, .undef, .undef, .undef], h⟩
abbrev s_slices_IndexFunc_sl_api_Tree_api_Tree_K0 (t0 t1 t7 t8 : AV) (h : Heap) : St := ⟨[t0, t1, .undef, .undef, .undef, .undef, .undef, t7, t8, .undef, .undef, .undef, .undef, .undef, .undef, .undef, .undef, .undef, .undef], h⟩
def i_slices_IndexFunc_sl_api_Tree_api_Tree_b0 : IR :=
  (.seq
   (.reg [] [
     ⟨(some 9), .bin .plain .lss (.t 8) (.t 7), none, []⟩])
   (.seq
    (.cond (.t 9)
     .skip
     (.exit 0 i_slices_IndexFunc_sl_api_Tree_api_Tree_j0))
    (.seq
     (.block 1 i_slices_IndexFunc_sl_api_Tree_api_Tree_j1
      (.seq
       (.reg [] [
         ⟨(some 10), .mv (.t 8), none, []⟩,
         ⟨(some 5), .mv (.t 10), none, []⟩])
       (.seq
        (.reg [] [
          ⟨(some 11), .mv (.t 1), none, []⟩,
          ⟨(some 12), .cn (.t 0), none, []⟩,
          ⟨(some 13), .mv (.t 5), none, []⟩,
          ⟨(some 14), .ia 5 (.t 12) (.t 13), none, []⟩,
          ⟨(some 15), .load true 5 (.t 14), none, []⟩,
          ⟨(some 16), .callv (.t 11) [(.t 15)] [], none, [15]⟩])
        (.cond (.t 16)
         (.seq
          (.reg [] [
            ⟨(some 17), .mv (.t 5), none, []⟩,
            ⟨(some 4), .mv (.t 17), none, []⟩])
          (.ret i_slices_IndexFunc_sl_api_Tree_api_Tree_r))
         .skip))))
     (.reg [] [
       ⟨(some 18), .bin .plain .add (.t 8) (.k (.int .i64 1)), none, []⟩,
       ⟨(some 8), .mv (.t 18), none, []⟩]))))

abbrev s_slices_IndexFunc_sl_api_Tree_api_Tree_J0 (h : Heap) : St := ⟨[.undef, .undef, .undef, .undef, .undef, .undef, .undef, .undef, .undef, .undef, .undef, .undef, .undef, .undef, .undef, .undef, .undef, .undef, .undef], h⟩
/-- slices.IndexFunc[[]heartwood/api.Tree,heartwood/api.Tree] -/
def i_slices_IndexFunc_sl_api_Tree_api_Tree : Ev.Fn := ⟨2, 19, 0,
  (.seq
   (.reg [] [
     ⟨(some 4), .mv (.k (.int .i64 0)), none, []⟩])
   (.seq
    (.seq
     (.reg [] [
       ⟨(some 6), .cn (.t 0), none, []⟩,
       ⟨(some 7), .len false (.t 6), none, []⟩,
       ⟨(some 8), .mv (.k (.int .i64 0)), none, []⟩])
     (.block 0 i_slices_IndexFunc_sl_api_Tree_api_Tree_j0
      (.loop i_slices_IndexFunc_sl_api_Tree_api_Tree_k0 i_slices_IndexFunc_sl_api_Tree_api_Tree_b0)))
    (.seq
     (.reg [] [
       ⟨(some 4), .mv (.k (.int .i64 (-1))), none, []⟩])
     (.ret i_slices_IndexFunc_sl_api_Tree_api_Tree_r)))),
  [.tmp 4], [], false, [], false⟩

def i_tree_formed_r : List Bool := [false, false, true, false, false, false, false, false, false, false, false, false, false, false, false, false, false, false, false, false, false, false, false, false, false, false, false, false, false, false, false, false, false, false, false, false, false, false, false, false, false, false, false, false, false, false, false, false, false, false, false, false, false, false, false, false, false, false, false, false, false, false, false, false, false, false, false, false, false, false, false, false, false, false, false, false, false, false, false, false, false, false, false, false, false, false, false]
def i_tree_formed_j0 : List Bool := [false, true, false, true, false, false, false, false, false, false, false, false, false, false, false, false, false, false, false, false, false, false, false, false, false, false, false, false, false, false, false, false, false, false, false, false, false, false, false, false, false, false, false, false, false, false, false, false, false, false, false, false, false, false, false, false, false, false, false, false, false, false, false, false, false, false, false, false, false, false, false, false, false, false, false, false, false, false, false, false, false, false, false, false, false, false, false]
/-- heartwood/tree.formed -/
def i_tree_formed : Ev.Fn := ⟨1, 87, 1,
  (.seq
   (.reg [] [
     ⟨(some 1), .box 0 5 (.t 0), none, []⟩,
     ⟨(some 2), .mv (.k (.bool false)), none, []⟩])
   (.seq
    (.reg [] [
      ⟨(some 3), .mv (.k (.bool false)), none, []⟩])
    (.seq
     (.seq
      (.reg [] [
        ⟨(some 4), .fa 0 (.t 1), none, []⟩,
        ⟨(some 5), .load false 1 (.t 4), none, []⟩])
      (.block 0 i_tree_formed_j0
       (.seq
        (.reg [] [
          ⟨(some 7), .bin .plain .eql (.t 5) (.k (.int .i64 0)), none, []⟩,
          ⟨(some 6), .mv (.t 7), none, []⟩])
        (.cond (.t 6)
         (.reg [] [
           ⟨(some 8), .fa 1 (.t 1), none, []⟩,
           ⟨(some 9), .load false 1 (.t 8), none, []⟩,
           ⟨(some 10), .len false (.t 9), none, []⟩,
           ⟨(some 11), .fa 2 (.t 1), none, []⟩,
           ⟨(some 12), .load false 1 (.t 11), none, []⟩,
           ⟨(some 13), .len false (.t 12), none, []⟩,
           ⟨(some 14), .bin .plain .add (.t 10) (.t 13), none, []⟩,
           ⟨(some 15), .fa 3 (.t 1), none, []⟩,
           ⟨(some 16), .load false 1 (.t 15), none, []⟩,
           ⟨(some 17), .len false (.t 16), none, []⟩,
           ⟨(some 18), .bin .plain .add (.t 14) (.t 17), none, []⟩,
           ⟨(some 19), .fa 4 (.t 1), none, []⟩,
           ⟨(some 20), .load false 1 (.t 19), none, []⟩,
           ⟨(some 21), .len false (.t 20), none, []⟩,
           ⟨(some 22), .bin .plain .add (.t 18) (.t 21), none, []⟩,
           ⟨(some 23), .bin .plain .eql (.t 22) (.k (.int .i64 0)), none, []⟩,
           ⟨(some 3), .mv (.t 23), none, []⟩])
         (.seq
          (.reg [] [
            ⟨(some 25), .bin .plain .eql (.t 5) (.k (.int .i64 1)), none, []⟩,
            ⟨(some 24), .mv (.t 25), none, []⟩])
          (.cond (.t 24)
           (.reg [] [
             ⟨(some 26), .fa 1 (.t 1), none, []⟩,
             ⟨(some 27), .load false 1 (.t 26), none, []⟩,
             ⟨(some 28), .len false (.t 27), none, []⟩,
             ⟨(some 29), .bin .plain .leq (.t 28) (.k (.int .i64 80)), none, []⟩,
             ⟨(some 30), .mv (.t 29), none, []⟩,
             ⟨(some 31), .fa 2 (.t 1), (some (30, true)), []⟩,
             ⟨(some 32), .load false 1 (.t 31), (some (30, true)), []⟩,
             ⟨(some 33), .len false (.t 32), (some (30, true)), []⟩,
             ⟨(some 34), .bin .plain .leq (.t 33) (.k (.int .i64 1024)), (some (30, true)), []⟩,
             ⟨(some 35), .pick (.t 30) (.t 34) (.k (.bool false)), none, []⟩,
             ⟨(some 36), .mv (.t 35), none, []⟩,
             ⟨(some 37), .fa 3 (.t 1), (some (36, true)), []⟩,
             ⟨(some 38), .load false 1 (.t 37), (some (36, true)), []⟩,
             ⟨(some 39), .len false (.t 38), (some (36, true)), []⟩,
             ⟨(some 40), .bin .plain .eql (.t 39) (.k (.int .i64 0)), (some (36, true)), []⟩,
             ⟨(some 41), .pick (.t 36) (.t 40) (.k (.bool false)), none, []⟩,
             ⟨(some 42), .mv (.t 41), none, []⟩,
             ⟨(some 43), .fa 4 (.t 1), (some (42, true)), []⟩,
             ⟨(some 44), .load false 1 (.t 43), (some (42, true)), []⟩,
             ⟨(some 45), .len false (.t 44), (some (42, true)), []⟩,
             ⟨(some 46), .bin .plain .eql (.t 45) (.k (.int .i64 2)), (some (42, true)), []⟩,
             ⟨(some 47), .pick (.t 42) (.t 46) (.k (.bool false)), none, []⟩,
             ⟨(some 3), .mv (.t 47), none, []⟩])
           (.seq
            (.reg [] [
              ⟨(some 49), .bin .plain .eql (.t 5) (.k (.int .i64 2)), none, []⟩,
              ⟨(some 48), .mv (.t 49), none, []⟩])
            (.cond (.t 48)
             (.reg [] [
               ⟨(some 50), .fa 1 (.t 1), none, []⟩,
               ⟨(some 51), .load false 1 (.t 50), none, []⟩,
               ⟨(some 52), .len false (.t 51), none, []⟩,
               ⟨(some 53), .bin .plain .leq (.t 52) (.k (.int .i64 80)), none, []⟩,
               ⟨(some 54), .mv (.t 53), none, []⟩,
               ⟨(some 55), .fa 2 (.t 1), (some (54, true)), []⟩,
               ⟨(some 56), .load false 1 (.t 55), (some (54, true)), []⟩,
               ⟨(some 57), .len false (.t 56), (some (54, true)), []⟩,
               ⟨(some 58), .bin .plain .eql (.t 57) (.k (.int .i64 0)), (some (54, true)), []⟩,
               ⟨(some 59), .pick (.t 54) (.t 58) (.k (.bool false)), none, []⟩,
               ⟨(some 60), .mv (.t 59), none, []⟩,
               ⟨(some 61), .fa 4 (.t 1), (some (60, true)), []⟩,
               ⟨(some 62), .load false 1 (.t 61), (some (60, true)), []⟩,
               ⟨(some 63), .len false (.t 62), (some (60, true)), []⟩,
               ⟨(some 64), .bin .plain .eql (.t 63) (.k (.int .i64 2)), (some (60, true)), []⟩,
               ⟨(some 65), .pick (.t 60) (.t 64) (.k (.bool false)), none, []⟩,
               ⟨(some 3), .mv (.t 65), none, []⟩])
             (.seq
              (.reg [] [
                ⟨(some 67), .bin .plain .eql (.t 5) (.k (.int .i64 3)), none, []⟩,
                ⟨(some 66), .mv (.t 67), none, []⟩])
              (.cond (.t 66)
               (.reg [] [
                 ⟨(some 68), .fa 1 (.t 1), none, []⟩,
                 ⟨(some 69), .load false 1 (.t 68), none, []⟩,
                 ⟨(some 70), .len false (.t 69), none, []⟩,
                 ⟨(some 71), .fa 2 (.t 1), none, []⟩,
                 ⟨(some 72), .load false 1 (.t 71), none, []⟩,
                 ⟨(some 73), .len false (.t 72), none, []⟩,
                 ⟨(some 74), .bin .plain .add (.t 70) (.t 73), none, []⟩,
                 ⟨(some 75), .fa 4 (.t 1), none, []⟩,
                 ⟨(some 76), .load false 1 (.t 75), none, []⟩,
                 ⟨(some 77), .len false (.t 76), none, []⟩,
                 ⟨(some 78), .bin .plain .add (.t 74) (.t 77), none, []⟩,
                 ⟨(some 79), .bin .plain .eql (.t 78) (.k (.int .i64 0)), none, []⟩,
                 ⟨(some 3), .mv (.t 79), none, []⟩])
               .skip))))))))))
     (.seq
      (.reg [] [
        ⟨(some 80), .mv (.t 3), none, []⟩,
        ⟨(some 81), .mv (.t 80), none, []⟩,
        ⟨(some 82), .fa 4 (.t 1), (some (81, true)), []⟩,
        ⟨(some 83), .load false 1 (.t 82), (some (81, true)), []⟩,
        ⟨(some 84), .call n_slices_ContainsFunc_sl_api_Tree_api_Tree [(.t 83), (.f n_tree_formed_1)] [], (some (81, true)), []⟩,
        ⟨(some 85), .un .not (.t 84), (some (81, true)), []⟩,
        ⟨(some 86), .pick (.t 81) (.t 85) (.k (.bool false)), none, []⟩,
        ⟨(some 2), .mv (.t 86), none, []⟩])
      (.ret i_tree_formed_r))))),
  [.tmp 2], [], false, [], false⟩

def i_tree_formed_1_r : List Bool := [false, false, true, false, false, false]
/-- heartwood/tree.formed$1 -/
def i_tree_formed_1 : Ev.Fn := ⟨1, 6, 1,
  (.seq
   (.reg [] [
     ⟨(some 1), .box 0 5 (.t 0), none, []⟩,
     ⟨(some 2), .mv (.k (.bool false)), none, []⟩])
   (.seq
    (.reg [] [
      ⟨(some 3), .load true 5 (.t 1), none, []⟩,
      ⟨(some 4), .qcall n_tree_formed [(.t 3)] [], none, []⟩,
      ⟨(some 5), .un .not (.t 4), none, []⟩,
      ⟨(some 2), .mv (.t 5), none, []⟩])
    (.ret i_tree_formed_1_r))),
  [.tmp 2], [], false, [], false⟩

def i_tree_full_r : List Bool := [false, false, true, false, false, false, false, false, false, false, false, false, false, false, false]
/-- heartwood/tree.full -/
def i_tree_full : Ev.Fn := ⟨1, 15, 1,
  (.seq
   (.reg [] [
     ⟨(some 1), .box 0 5 (.t 0), none, []⟩,
     ⟨(some 2), .mv (.k (.bool false)), none, []⟩])
   (.seq
    (.seq
     (.reg [] [
       ⟨(some 3), .fa 0 (.t 1), none, []⟩,
       ⟨(some 4), .load false 1 (.t 3), none, []⟩,
       ⟨(some 5), .bin .plain .eql (.t 4) (.k (.int .i64 2)), none, []⟩,
       ⟨(some 6), .mv (.t 5), none, []⟩,
       ⟨(some 7), .fa 0 (.t 1), (some (6, false)), []⟩,
       ⟨(some 8), .load false 1 (.t 7), (some (6, false)), []⟩,
       ⟨(some 9), .bin .plain .eql (.t 8) (.k (.int .i64 3)), (some (6, false)), []⟩,
       ⟨(some 10), .pick (.t 6) (.k (.bool true)) (.t 9), none, []⟩])
     (.cond (.t 10)
      (.seq
       (.reg [] [
         ⟨(some 2), .mv (.k (.bool false)), none, []⟩])
       (.ret i_tree_full_r))
      .skip))
    (.seq
     (.reg [] [
       ⟨(some 11), .fa 4 (.t 1), none, []⟩,
       ⟨(some 12), .load false 1 (.t 11), none, []⟩,
       ⟨(some 13), .call n_slices_ContainsFunc_sl_api_Tree_api_Tree [(.t 12), (.f n_tree_full_1)] [], none, []⟩,
       ⟨(some 14), .un .not (.t 13), none, []⟩,
       ⟨(some 2), .mv (.t 14), none, []⟩])
     (.ret i_tree_full_r)))),
  [.tmp 2], [], false, [], false⟩

def i_tree_full_1_r : List Bool := [false, false, true, false, false, false]
/-- heartwood/tree.full$1 -/
def i_tree_full_1 : Ev.Fn := ⟨1, 6, 1,
  (.seq
   (.reg [] [
     ⟨(some 1), .box 0 5 (.t 0), none, []⟩,
     ⟨(some 2), .mv (.k (.bool false)), none, []⟩])
   (.seq
    (.reg [] [
      ⟨(some 3), .load true 5 (.t 1), none, []⟩,
      ⟨(some 4), .qcall n_tree_full [(.t 3)] [], none, []⟩,
      ⟨(some 5), .un .not (.t 4), none, []⟩,
      ⟨(some 2), .mv (.t 5), none, []⟩])
    (.ret i_tree_full_1_r))),
  [.tmp 2], [], false, [], false⟩

def i_tree_List_r : List Bool := [false, false, true, false, false, false, false, false, false, false, false, false, false]
/-- heartwood/tree.List -/
def i_tree_List : Ev.Fn := ⟨1, 13, 4,
  (.seq
   (.reg [] [
     ⟨(some 1), .box 0 5 (.t 0), none, []⟩,
     ⟨(some 2), .cn (.k (.slice none 0 0)), none, []⟩])
   (.seq
    (.seq
     (.reg [] [
       ⟨(some 5), .load true 5 (.t 1), none, []⟩,
       ⟨(some 6), .qcall n_tree_Check [(.t 5)] [], none, []⟩,
       ⟨(some 7), .bin (.iface ty_api_Code true) .neq (.t 6) (.k .nilIface), none, []⟩])
     (.cond (.t 7)
      (.seq
       (.reg [] [
         ⟨(some 2), .cn (.k (.slice none 0 0)), none, []⟩])
       (.ret i_tree_List_r))
      .skip))
    (.seq
     (.reg [] [
       ⟨(some 3), .new 1 [(.slice none 0 0)], none, []⟩])
     (.seq
      (.reg [] [
        ⟨(some 4), .new 2 [.nilFunc], none, []⟩])
      (.seq
       (.reg [] [
         ⟨(some 8), .mkf n_tree_List_1 [(.t 4), (.t 3)], none, []⟩,
         ⟨none, .store 1 (.t 4) (.t 8), none, []⟩])
       (.seq
        (.reg [] [
          ⟨(some 9), .load false 1 (.t 4), none, []⟩,
          ⟨(some 10), .load true 5 (.t 1), none, []⟩,
          ⟨(some 11), .callv (.t 9) [(.t 10)] [3], none, []⟩])
        (.seq
         (.reg [] [
           ⟨(some 12), .load false 1 (.t 3), none, []⟩,
           ⟨(some 2), .cn (.t 12), none, []⟩])
         (.ret i_tree_List_r)))))))),
  [.tmp 2], [], false, [], false⟩

def i_tree_List_1_r : List Bool := [false, false, false, false, false, false, false, false, false, false, false, false, false, false, false, false, false, false, false, false, false, false, false, false, false, false]
/-- heartwood/tree.List$1 -/
def i_tree_List_1 : Ev.Fn := ⟨3, 26, 4,
  (.seq
   (.reg [] [
     ⟨(some 3), .box 0 5 (.t 0), none, []⟩])
   (.seq
    (.seq
     (.reg [] [
       ⟨(some 4), .fa 4 (.t 3), none, []⟩,
       ⟨(some 5), .load false 1 (.t 4), none, []⟩,
       ⟨(some 6), .len false (.t 5), none, []⟩,
       ⟨(some 7), .bin .plain .eql (.t 6) (.k (.int .i64 0)), none, []⟩])
     (.cond (.t 7)
      (.ret i_tree_List_1_r)
      .skip))
    (.seq
     (.reg [] [
       ⟨(some 8), .load false 1 (.t 1), none, []⟩,
       ⟨(some 9), .fa 4 (.t 3), none, []⟩,
       ⟨(some 10), .load false 1 (.t 9), none, []⟩,
       ⟨(some 11), .ia 5 (.t 10) (.k (.int .i64 0)), none, []⟩,
       ⟨(some 12), .load true 5 (.t 11), none, []⟩,
       ⟨(some 13), .callv (.t 8) [(.t 12)] [1], none, [12]⟩])
     (.seq
      (.reg [(5, 7), (6, 7)] [
        ⟨(some 14), .load false 1 (.t 2), none, []⟩,
        ⟨(some 15), .load true 5 (.t 3), none, []⟩,
        ⟨(some 16), .len false (.t 14), none, []⟩,
        ⟨(some 17), .litd 5 1 [(.int .i64 0), (.slice none 0 0), (.slice none 0 0), (.slice none 0 0), (.slice none 0 0)] [(0, (.k (.agg #[(.int .i64 0), (.slice none 0 0), (.slice none 0 0), (.slice none 0 0), (.slice none 0 0)])))], none, []⟩,
        ⟨(some 18), .app 2 ty_api_Tree 5 104 (.t 14) (.t 17), none, []⟩,
        ⟨(some 19), .ia 5 (.t 18) (.t 16), none, []⟩,
        ⟨none, .store 5 (.t 19) (.t 15), none, [15]⟩,
        ⟨none, .store 1 (.t 2) (.t 18), none, []⟩])
      (.reg [] [
        ⟨(some 20), .load false 1 (.t 1), none, []⟩,
        ⟨(some 21), .fa 4 (.t 3), none, []⟩,
        ⟨(some 22), .load false 1 (.t 21), none, []⟩,
        ⟨(some 23), .ia 5 (.t 22) (.k (.int .i64 1)), none, []⟩,
        ⟨(some 24), .load true 5 (.t 23), none, []⟩,
        ⟨(some 25), .callv (.t 20) [(.t 24)] [3], none, [24]⟩]))))),
  [], [], false, [], false⟩

def i_avl_even_r : List Bool := [false, false, true, true, false, false, false, false, false, false, false, false, false, false, false, false, false, false, false, false, false, false, false, false, false, false, false, false, false, false, false, false, false, false, false, false, false, false, false, false, false, false, false, false, false, false, false, false]
/-- heartwood/avl.even -/
def i_avl_even : Ev.Fn := ⟨1, 48, 1,
  (.seq
   (.reg [] [
     ⟨(some 1), .box 0 5 (.t 0), none, []⟩,
     ⟨(some 2), .mv (.k (.int .i64 0)), none, []⟩,
     ⟨(some 3), .mv (.k (.bool false)), none, []⟩])
   (.seq
    (.seq
     (.reg [] [
       ⟨(some 8), .fa 4 (.t 1), none, []⟩,
       ⟨(some 9), .load false 1 (.t 8), none, []⟩,
       ⟨(some 10), .len false (.t 9), none, []⟩,
       ⟨(some 11), .bin .plain .eql (.t 10) (.k (.int .i64 0)), none, []⟩])
     (.cond (.t 11)
      (.seq
       (.reg [] [
         ⟨(some 2), .mv (.k (.int .i64 0)), none, []⟩,
         ⟨(some 3), .mv (.k (.bool true)), none, []⟩])
       (.ret i_avl_even_r))
      .skip))
    (.seq
     (.reg [] [
       ⟨(some 13), .fa 4 (.t 1), none, []⟩,
       ⟨(some 14), .load false 1 (.t 13), none, []⟩,
       ⟨(some 15), .ia 5 (.t 14) (.k (.int .i64 0)), none, []⟩,
       ⟨(some 16), .load true 5 (.t 15), none, []⟩,
       ⟨(some 17), .qcall n_avl_even [(.t 16)] [], none, []⟩,
       ⟨(some 12), .mv (.t 17), none, []⟩,
       ⟨(some 18), .ext 0 (.t 12), none, []⟩,
       ⟨(some 19), .ext 1 (.t 12), none, []⟩,
       ⟨(some 4), .mv (.t 18), none, []⟩,
       ⟨(some 5), .mv (.t 19), none, []⟩])
     (.seq
      (.reg [] [
        ⟨(some 21), .fa 4 (.t 1), none, []⟩,
        ⟨(some 22), .load false 1 (.t 21), none, []⟩,
        ⟨(some 23), .ia 5 (.t 22) (.k (.int .i64 1)), none, []⟩,
        ⟨(some 24), .load true 5 (.t 23), none, []⟩,
        ⟨(some 25), .qcall n_avl_even [(.t 24)] [], none, []⟩,
        ⟨(some 20), .mv (.t 25), none, []⟩,
        ⟨(some 26), .ext 0 (.t 20), none, []⟩,
        ⟨(some 27), .ext 1 (.t 20), none, []⟩,
        ⟨(some 6), .mv (.t 26), none, []⟩,
        ⟨(some 7), .mv (.t 27), none, []⟩])
      (.seq
       (.reg [] [
         ⟨(some 28), .mv (.t 4), none, []⟩,
         ⟨(some 29), .mv (.t 6), none, []⟩,
         ⟨(some 30), .mx (.t 28) (.t 29), none, []⟩,
         ⟨(some 31), .bin .plain .add (.t 30) (.k (.int .i64 1)), none, []⟩,
         ⟨(some 32), .mv (.t 5), none, []⟩,
         ⟨(some 33), .mv (.t 32), none, []⟩,
         ⟨(some 34), .mv (.t 7), (some (33, true)), []⟩,
         ⟨(some 35), .pick (.t 33) (.t 34) (.k (.bool false)), none, []⟩,
         ⟨(some 36), .mv (.t 35), none, []⟩,
         ⟨(some 37), .mv (.t 4), (some (36, true)), []⟩,
         ⟨(some 38), .mv (.t 6), (some (36, true)), []⟩,
         ⟨(some 39), .bin .plain .sub (.t 37) (.t 38), (some (36, true)), []⟩,
         ⟨(some 40), .bin .plain .leq (.t 39) (.k (.int .i64 1)), (some (36, true)), []⟩,
         ⟨(some 41), .pick (.t 36) (.t 40) (.k (.bool false)), none, []⟩,
         ⟨(some 42), .mv (.t 41), none, []⟩,
         ⟨(some 43), .mv (.t 6), (some (42, true)), []⟩,
         ⟨(some 44), .mv (.t 4), (some (42, true)), []⟩,
         ⟨(some 45), .bin .plain .sub (.t 43) (.t 44), (some (42, true)), []⟩,
         ⟨(some 46), .bin .plain .leq (.t 45) (.k (.int .i64 1)), (some (42, true)), []⟩,
         ⟨(some 47), .pick (.t 42) (.t 46) (.k (.bool false)), none, []⟩,
         ⟨(some 2), .mv (.t 31), none, []⟩,
         ⟨(some 3), .mv (.t 47), none, []⟩])
       (.ret i_avl_even_r)))))),
  [.tmp 2, .tmp 3], [], false, [], false⟩

def i_slices_Clone_sl_byte_byte_v1_r : List Bool := [false, false, true, false, false, false, false, false, true]
/-- slices.Clone[[]byte,byte] -/
def i_slices_Clone_sl_byte_byte_v1 : Ev.Fn := ⟨1, 8, 1,
  (.seq
   (.reg [] [
     ⟨(some 2), .mv (.k (.slice none 0 0)), none, []⟩])
   (.seq
    (.seq
     (.reg [] [
       ⟨(some 3), .mv (.t 0), none, []⟩,
       ⟨(some 4), .bin .slice .eql (.t 3) (.k (.slice none 0 0)), none, []⟩])
     (.cond (.t 4)
      (.seq
       (.reg [] [
         ⟨(some 2), .mv (.k (.slice none 0 0)), none, []⟩])
       (.ret i_slices_Clone_sl_byte_byte_v1_r))
      .skip))
    (.seq
     (.reg [] [
       ⟨(some 5), .lit 0 ty_uint8 1 0 [(.int .u8 0)] [], none, []⟩,
       ⟨(some 6), .cn (.t 0), none, []⟩,
       ⟨(some 7), .app 0 ty_uint8 1 1 (.t 5) (.t 6), none, []⟩,
       ⟨(some 2), .mv (.t 7), none, [7]⟩])
     (.ret i_slices_Clone_sl_byte_byte_v1_r)))),
  [.tmp 2], [], true, [], true⟩

def i_ref04_Same_r : List Bool := [false, false, false, false, true, false, false, false, false, false, false, false, false, false, false, false, false, false, false, false, false, false, false, false, false, false, false, false, false, false, false, false, false, false, false, false, false, false, false, false, false, false, false, false, false, false, false, false, false, false, false, false, false, false, false, false, false, false, false, false, false, false, false, false, false, false, false, false]
def i_ref04_Same_j1 : List Bool := [false, false, true, true, false, true, false, false, false, false, false, false, false, false, false, false, false, false, false, false, false, false, false, false, false, false, false, false, false, false, false, false, false, false, false, false, false, false, false, false, false, false, false, false, false, false, false, false, false, false, false, false, false, false, false, false, false, false, false, false, false, false, false, false, false, false, false, false]
def i_ref04_Same_k0 : List Bool := [false, false, true, true, false, true, false, false, false, false, false, false, false, false, false, false, false, false, false, false, false, false, false, false, false, false, false, false, false, false, false, false, false, false, false, false, false, false, false, false, false, false, false, false, false, false, false, false, false, false, false, false, false, false, false, false, false, false, false, false, false, false, false, false, false, false, false, false]
def i_ref04_Same_j0 : List Bool := [false, false, false, false, false, false, false, false, false, false, false, false, false, false, false, false, false, false, false, false, false, false, false, false, false, false, false, false, false, false, false, false, false, false, false, false, false, false, false, false, false, false, false, false, false, false, false, false, false, false, false, false, false, false, false, false, false, false, false, false, false, false, false, false, false, false, false, false]
abbrev s_ref04_Same_R (t4 : AV) (h : Heap) : St := ⟨[.undef, .undef, .undef, .undef, t4, .undef, .undef, .undef, .undef, .undef, .undef, .undef, .undef, .undef, .undef, .undef, .undef, .undef, .undef, .undef, .undef, .undef, .undef, .undef, .undef, .undef, .undef, .undef, .undef, .undef, .undef, .undef, .undef, .undef, .undef, .undef, .undef, .undef, .undef, .undef, .undef, .undef, .undef, .undef, .undef, .undef, .undef, .undef, .undef, .undef, .undef, .undef, .undef, .undef, .undef, .undef, .undef, .undef, .undef, .undef, .undef, .undef, .undef, .undef, .undef, .undef, .undef, .undef], h⟩
abbrev s_ref04_Same_K0 (t2 t3 t5 : AV) (h : Heap) : St := ⟨[.undef, .undef, t2, t3, .undef, t5, .undef, .undef, .undef, .undef, .undef, .undef, .undef, .undef, .undef, .undef, .undef, .undef, .undef, .undef, .undef, .undef, .undef, .undef, .undef, .undef, .undef, .undef, .undef, .undef, .undef, .undef, .undef, .undef, .undef, .undef, .undef, .undef, .undef, .undef, .undef, .undef, .undef, .undef, .undef, .undef, .undef, .undef, .undef, .undef, .undef, .undef, .undef, .undef, .undef, .undef, .undef, .undef, .undef, .undef, .undef, .undef, .undef, .undef, .undef, .undef, .undef, .undef], h⟩
def i_ref04_Same_b0 : IR :=
  (.seq
   (.seq
    (.reg [] [
      ⟨(some 48), .mv (.t 5), none, []⟩,
      ⟨(some 49), .fa 4 (.t 2), none, []⟩,
      ⟨(some 50), .load false 1 (.t 49), none, []⟩,
      ⟨(some 51), .len false (.t 50), none, []⟩,
      ⟨(some 52), .bin .plain .lss (.t 48) (.t 51), none, []⟩])
    (.cond (.t 52)
     .skip
     (.exit 0 i_ref04_Same_j0)))
   (.seq
    (.block 1 i_ref04_Same_j1
     (.seq
      (.reg [] [
        ⟨(some 55), .fa 4 (.t 2), none, []⟩,
        ⟨(some 56), .load false 1 (.t 55), none, []⟩,
        ⟨(some 57), .mv (.t 5), none, []⟩,
        ⟨(some 58), .ia 5 (.t 56) (.t 57), none, []⟩,
        ⟨(some 59), .load true 5 (.t 58), none, []⟩,
        ⟨(some 60), .fa 4 (.t 3), none, []⟩,
        ⟨(some 61), .load false 1 (.t 60), none, []⟩,
        ⟨(some 62), .mv (.t 5), none, []⟩,
        ⟨(some 63), .ia 5 (.t 61) (.t 62), none, []⟩,
        ⟨(some 64), .load true 5 (.t 63), none, []⟩,
        ⟨(some 65), .qcall n_ref04_Same [(.t 59), (.t 64)] [], none, []⟩,
        ⟨(some 6), .mv (.t 65), none, []⟩])
      (.seq
       (.reg [] [
         ⟨(some 66), .mv (.t 6), none, []⟩,
         ⟨(some 67), .un .not (.t 66), none, []⟩])
       (.cond (.t 67)
        (.seq
         (.reg [] [
           ⟨(some 4), .mv (.k (.bool false)), none, []⟩])
         (.ret i_ref04_Same_r))
        .skip))))
    (.reg [] [
      ⟨(some 53), .mv (.t 5), none, []⟩,
      ⟨(some 54), .bin .plain .add (.t 53) (.k (.int .i64 1)), none, []⟩,
      ⟨(some 5), .mv (.t 54), none, []⟩])))

abbrev s_ref04_Same_J0 (h : Heap) : St := ⟨[.undef, .undef, .undef, .undef, .undef, .undef, .undef, .undef, .undef, .undef, .undef, .undef, .undef, .undef, .undef, .undef, .undef, .undef, .undef, .undef, .undef, .undef, .undef, .undef, .undef, .undef, .undef, .undef, .undef, .undef, .undef, .undef, .undef, .undef, .undef, .undef, .undef, .undef, .undef, .undef, .undef, .undef, .undef, .undef, .undef, .undef, .undef, .undef, .undef, .undef, .undef, .undef, .undef, .undef, .undef, .undef, .undef, .undef, .undef, .undef, .undef, .undef, .undef, .undef, .undef, .undef, .undef, .undef], h⟩
/-- heartwood/heartwoodref04.Same -/
def i_ref04_Same : Ev.Fn := ⟨2, 68, 2,
  (.seq
   (.reg [] [
     ⟨(some 2), .box 0 5 (.t 0), none, []⟩,
     ⟨(some 3), .box 1 5 (.t 1), none, []⟩,
     ⟨(some 4), .mv (.k (.bool false)), none, []⟩])
   (.seq
    (.seq
     (.reg [] [
       ⟨(some 7), .fa 0 (.t 2), none, []⟩,
       ⟨(some 8), .load false 1 (.t 7), none, []⟩,
       ⟨(some 9), .fa 0 (.t 3), none, []⟩,
       ⟨(some 10), .load false 1 (.t 9), none, []⟩,
       ⟨(some 11), .bin .plain .neq (.t 8) (.t 10), none, []⟩,
       ⟨(some 12), .mv (.t 11), none, []⟩,
       ⟨(some 13), .fa 1 (.t 2), (some (12, false)), []⟩,
       ⟨(some 14), .load false 1 (.t 13), (some (12, false)), []⟩,
       ⟨(some 15), .b2s (.t 14), (some (12, false)), []⟩,
       ⟨(some 16), .fa 1 (.t 3), (some (12, false)), []⟩,
       ⟨(some 17), .load false 1 (.t 16), (some (12, false)), []⟩,
       ⟨(some 18), .b2s (.t 17), (some (12, false)), []⟩,
       ⟨(some 19), .bin .plain .neq (.t 15) (.t 18), (some (12, false)), []⟩,
       ⟨(some 20), .pick (.t 12) (.k (.bool true)) (.t 19), none, []⟩,
       ⟨(some 21), .mv (.t 20), none, []⟩,
       ⟨(some 22), .fa 2 (.t 2), (some (21, false)), []⟩,
       ⟨(some 23), .load false 1 (.t 22), (some (21, false)), []⟩,
       ⟨(some 24), .b2s (.t 23), (some (21, false)), []⟩,
       ⟨(some 25), .fa 2 (.t 3), (some (21, false)), []⟩,
       ⟨(some 26), .load false 1 (.t 25), (some (21, false)), []⟩,
       ⟨(some 27), .b2s (.t 26), (some (21, false)), []⟩,
       ⟨(some 28), .bin .plain .neq (.t 24) (.t 27), (some (21, false)), []⟩,
       ⟨(some 29), .pick (.t 21) (.k (.bool true)) (.t 28), none, []⟩,
       ⟨(some 30), .mv (.t 29), none, []⟩,
       ⟨(some 31), .fa 3 (.t 2), (some (30, false)), []⟩,
       ⟨(some 32), .load false 1 (.t 31), (some (30, false)), []⟩,
       ⟨(some 33), .b2s (.t 32), (some (30, false)), []⟩,
       ⟨(some 34), .fa 3 (.t 3), (some (30, false)), []⟩,
       ⟨(some 35), .load false 1 (.t 34), (some (30, false)), []⟩,
       ⟨(some 36), .b2s (.t 35), (some (30, false)), []⟩,
       ⟨(some 37), .bin .plain .neq (.t 33) (.t 36), (some (30, false)), []⟩,
       ⟨(some 38), .pick (.t 30) (.k (.bool true)) (.t 37), none, []⟩,
       ⟨(some 39), .mv (.t 38), none, []⟩,
       ⟨(some 40), .fa 4 (.t 2), (some (39, false)), []⟩,
       ⟨(some 41), .load false 1 (.t 40), (some (39, false)), []⟩,
       ⟨(some 42), .len false (.t 41), (some (39, false)), []⟩,
       ⟨(some 43), .fa 4 (.t 3), (some (39, false)), []⟩,
       ⟨(some 44), .load false 1 (.t 43), (some (39, false)), []⟩,
       ⟨(some 45), .len false (.t 44), (some (39, false)), []⟩,
       ⟨(some 46), .bin .plain .neq (.t 42) (.t 45), (some (39, false)), []⟩,
       ⟨(some 47), .pick (.t 39) (.k (.bool true)) (.t 46), none, []⟩])
     (.cond (.t 47)
      (.seq
       (.reg [] [
         ⟨(some 4), .mv (.k (.bool false)), none, []⟩])
       (.ret i_ref04_Same_r))
      .skip))
    (.seq
     (.seq
      (.reg [] [
        ⟨(some 5), .mv (.k (.int .i64 0)), none, []⟩])
      (.block 0 i_ref04_Same_j0
       (.loop i_ref04_Same_k0 i_ref04_Same_b0)))
     (.seq
      (.reg [] [
        ⟨(some 4), .mv (.k (.bool true)), none, []⟩])
      (.ret i_ref04_Same_r))))),
  [.tmp 4], [], false, [], false⟩

def i_ref06_Range_r : List Bool := [false, false, false, false, true, false, false, false, false, false, false, false, false, false, false, false, false, false, false, false, false, false, false, false, false, false, false, false, false, false, false, false, false, false, false, false, false, false, false, false]
def i_ref06_Range_j1 : List Bool := [false, false, false, true, false, true, true, true, false, false, false, false, false, false, false, false, false, false, false, false, false, false, false, false, false, false, false, false, false, false, false, false, false, false, false, false, false, false, false, false]
def i_ref06_Range_k0 : List Bool := [false, false, false, true, false, true, true, true, false, false, false, false, false, false, false, false, false, false, false, false, false, false, false, false, false, false, false, false, false, false, false, false, false, false, false, false, false, false, false, false]
def i_ref06_Range_j0 : List Bool := [false, false, false, false, false, true, false, false, false, false, false, false, false, false, false, false, false, false, false, false, false, false, false, false, false, false, false, false, false, false, false, false, false, false, false, false, false, false, false, false]
abbrev s_ref06_Range_R (t4 : AV) (h : Heap) : St := ⟨[.undef, .undef, .undef, .undef, t4, .undef, .undef, .undef, .undef, .undef, .undef, .undef, .undef, .undef, .undef, .undef, .undef, .undef, .undef, .undef, .undef, .undef, .undef, .undef, .undef, .undef, .undef, .undef, .undef, .undef, .undef, .undef, .undef, .undef, .undef, .undef, .undef, .undef, .undef, .undef], h⟩
abbrev s_ref06_Range_K0 (t3 t5 t6 t7 : AV) (h : Heap) : St := ⟨[.undef, .undef, .undef, t3, .undef, t5, t6, t7, .undef, .undef, .undef, .undef, .undef, .undef, .undef, .undef, .undef, .undef, .undef, .undef, .undef, .undef, .undef, .undef, .undef, .undef, .undef, .undef, .undef, .undef, .undef, .undef, .undef, .undef, .undef, .undef, .undef, .undef, .undef, .undef], h⟩
def i_ref06_Range_b0 : IR :=
  (.seq
   (.seq
    (.reg [] [
      ⟨(some 11), .mv (.t 7), none, []⟩,
      ⟨(some 12), .cn (.t 6), none, []⟩,
      ⟨(some 13), .len false (.t 12), none, []⟩,
      ⟨(some 14), .bin .plain .lss (.t 11) (.t 13), none, []⟩])
    (.cond (.t 14)
     .skip
     (.exit 0 i_ref06_Range_j0)))
   (.seq
    (.block 1 i_ref06_Range_j1
     (.seq
      (.reg [] [
        ⟨(some 17), .load true 3 (.t 3), none, []⟩,
        ⟨(some 18), .cn (.t 6), none, []⟩,
        ⟨(some 19), .mv (.t 7), none, []⟩,
        ⟨(some 20), .ia 5 (.t 18) (.t 19), none, []⟩,
        ⟨(some 21), .fa 1 (.t 20), none, []⟩,
        ⟨(some 22), .load false 1 (.t 21), none, []⟩,
        ⟨(some 23), .qcall n_ref06_In [(.t 17), (.t 22)] [], none, []⟩,
        ⟨(some 8), .mv (.t 23), none, []⟩])
      (.seq
       (.reg [] [
         ⟨(some 24), .mv (.t 8), none, []⟩])
       (.cond (.t 24)
        (.reg [] [
          ⟨(some 25), .mv (.t 5), none, []⟩,
          ⟨(some 26), .cn (.t 6), none, []⟩,
          ⟨(some 27), .mv (.t 7), none, []⟩,
          ⟨(some 28), .ia 5 (.t 26) (.t 27), none, []⟩,
          ⟨(some 29), .fa 1 (.t 28), none, []⟩,
          ⟨(some 30), .load false 1 (.t 29), none, []⟩,
          ⟨(some 31), .cn (.t 6), none, []⟩,
          ⟨(some 32), .mv (.t 7), none, []⟩,
          ⟨(some 33), .ia 5 (.t 31) (.t 32), none, []⟩,
          ⟨(some 34), .fa 2 (.t 33), none, []⟩,
          ⟨(some 35), .load false 1 (.t 34), none, []⟩,
          ⟨(some 36), .build [(.slice none 0 0), (.slice none 0 0)] [(0, 1, (.t 30)), (1, 1, (.t 35))], none, []⟩,
          ⟨(some 37), .litd 2 1 [(.slice none 0 0), (.slice none 0 0)] [(0, (.t 36))], none, []⟩,
          ⟨(some 38), .app 2 ty_api_Pair 2 48 (.t 25) (.t 37), none, []⟩,
          ⟨(some 5), .mv (.t 38), none, []⟩])
        .skip))))
    (.reg [] [
      ⟨(some 15), .mv (.t 7), none, []⟩,
      ⟨(some 16), .bin .plain .add (.t 15) (.k (.int .i64 1)), none, []⟩,
      ⟨(some 7), .mv (.t 16), none, []⟩])))

abbrev s_ref06_Range_J0 (t5 : AV) (h : Heap) : St := ⟨[.undef, .undef, .undef, .undef, .undef, t5, .undef, .undef, .undef, .undef, .undef, .undef, .undef, .undef, .undef, .undef, .undef, .undef, .undef, .undef, .undef, .undef, .undef, .undef, .undef, .undef, .undef, .undef, .undef, .undef, .undef, .undef, .undef, .undef, .undef, .undef, .undef, .undef, .undef, .undef], h⟩
/-- heartwood/heartwoodref06.Range -/
def i_ref06_Range : Ev.Fn := ⟨2, 40, 3,
  (.seq
   (.reg [] [
     ⟨(some 2), .box 0 5 (.t 0), none, []⟩,
     ⟨(some 3), .box 1 3 (.t 1), none, []⟩,
     ⟨(some 4), .cn (.k (.slice none 0 0)), none, []⟩])
   (.seq
    (.reg [] [
      ⟨(some 5), .mv (.k (.slice none 0 0)), none, []⟩])
    (.seq
     (.reg [] [
       ⟨(some 9), .load true 5 (.t 2), none, []⟩,
       ⟨(some 10), .qcall n_ref04_List [(.t 9)] [], none, []⟩,
       ⟨(some 6), .cn (.t 10), none, []⟩])
     (.seq
      (.seq
       (.reg [] [
         ⟨(some 7), .mv (.k (.int .i64 0)), none, []⟩])
       (.block 0 i_ref06_Range_j0
        (.loop i_ref06_Range_k0 i_ref06_Range_b0)))
      (.seq
       (.reg [] [
         ⟨(some 39), .cn (.t 5), none, [5]⟩,
         ⟨(some 4), .cn (.t 39), none, [39]⟩])
       (.ret i_ref06_Range_r)))))),
  [.tmp 4], [], false, [], false⟩

def i_ref04_List_r : List Bool := [false, false, true, false, false, false, false, false, false, false, false, false, false, false, false, false, false, false, false, false, false, false, false, false, false, false]
/-- heartwood/heartwoodref04.List -/
def i_ref04_List : Ev.Fn := ⟨1, 26, 2,
  (.seq
   (.reg [] [
     ⟨(some 1), .box 0 5 (.t 0), none, []⟩,
     ⟨(some 2), .cn (.k (.slice none 0 0)), none, []⟩])
   (.seq
    (.seq
     (.reg [] [
       ⟨(some 4), .fa 4 (.t 1), none, []⟩,
       ⟨(some 5), .load false 1 (.t 4), none, []⟩,
       ⟨(some 6), .len false (.t 5), none, []⟩,
       ⟨(some 7), .bin .plain .eql (.t 6) (.k (.int .i64 0)), none, []⟩])
     (.cond (.t 7)
      (.seq
       (.reg [] [
         ⟨(some 2), .cn (.k (.slice none 0 0)), none, []⟩])
       (.ret i_ref04_List_r))
      .skip))
    (.seq
     (.reg [] [
       ⟨(some 8), .lit 1 ty_api_Tree 5 0 [(.int .i64 0), (.slice none 0 0), (.slice none 0 0), (.slice none 0 0), (.slice none 0 0)] [], none, []⟩,
       ⟨(some 9), .fa 4 (.t 1), none, []⟩,
       ⟨(some 10), .load false 1 (.t 9), none, []⟩,
       ⟨(some 11), .ia 5 (.t 10) (.k (.int .i64 0)), none, []⟩,
       ⟨(some 12), .load true 5 (.t 11), none, []⟩,
       ⟨(some 13), .qcall n_ref04_List [(.t 12)] [], none, []⟩,
       ⟨(some 14), .app 1 ty_api_Tree 5 104 (.t 8) (.t 13), none, []⟩,
       ⟨(some 3), .mv (.t 14), none, []⟩])
     (.seq
      (.reg [] [
        ⟨(some 15), .mv (.t 3), none, []⟩,
        ⟨(some 16), .load true 5 (.t 1), none, []⟩,
        ⟨(some 17), .litd 5 1 [(.int .i64 0), (.slice none 0 0), (.slice none 0 0), (.slice none 0 0), (.slice none 0 0)] [(0, (.t 16))], none, []⟩,
        ⟨(some 18), .app 1 ty_api_Tree 5 104 (.t 15) (.t 17), none, []⟩,
        ⟨(some 3), .mv (.t 18), none, []⟩])
      (.seq
       (.reg [] [
         ⟨(some 19), .mv (.t 3), none, []⟩,
         ⟨(some 20), .fa 4 (.t 1), none, []⟩,
         ⟨(some 21), .load false 1 (.t 20), none, []⟩,
         ⟨(some 22), .ia 5 (.t 21) (.k (.int .i64 1)), none, []⟩,
         ⟨(some 23), .load true 5 (.t 22), none, []⟩,
         ⟨(some 24), .qcall n_ref04_List [(.t 23)] [], none, []⟩,
         ⟨(some 25), .app 1 ty_api_Tree 5 104 (.t 19) (.t 24), none, []⟩,
         ⟨(some 2), .cn (.t 25), none, [25]⟩])
       (.ret i_ref04_List_r)))))),
  [.tmp 2], [], false, [], false⟩

def i_ref06_In_r : List Bool := [false, false, false, false, true, false, false, false, false, false, false, false, false, false, false, false, false, false, false, false, false, false, false]
/-- heartwood/heartwoodref06.In -/
def i_ref06_In : Ev.Fn := ⟨2, 23, 1,
  (.seq
   (.reg [] [
     ⟨(some 2), .box 0 3 (.t 0), none, []⟩,
     ⟨(some 4), .mv (.k (.bool false)), none, []⟩])
   (.seq
    (.reg [] [
      ⟨(some 5), .fa 0 (.t 2), none, []⟩,
      ⟨(some 6), .load false 1 (.t 5), none, []⟩,
      ⟨(some 7), .b2s (.t 6), none, []⟩,
      ⟨(some 8), .cn (.t 1), none, []⟩,
      ⟨(some 9), .b2s (.t 8), none, []⟩,
      ⟨(some 10), .bin .plain .leq (.t 7) (.t 9), none, []⟩,
      ⟨(some 11), .mv (.t 10), none, []⟩,
      ⟨(some 12), .fa 2 (.t 2), (some (11, true)), []⟩,
      ⟨(some 13), .load false 1 (.t 12), (some (11, true)), []⟩,
      ⟨(some 14), .mv (.t 13), (some (11, true)), []⟩,
      ⟨(some 15), .cn (.t 1), (some (14, false)), []⟩,
      ⟨(some 16), .b2s (.t 15), (some (14, false)), []⟩,
      ⟨(some 17), .fa 1 (.t 2), (some (14, false)), []⟩,
      ⟨(some 18), .load false 1 (.t 17), (some (14, false)), []⟩,
      ⟨(some 19), .b2s (.t 18), (some (14, false)), []⟩,
      ⟨(some 20), .bin .plain .lss (.t 16) (.t 19), (some (14, false)), []⟩,
      ⟨(some 21), .pick (.t 14) (.k (.bool true)) (.t 20), (some (11, true)), []⟩,
      ⟨(some 22), .pick (.t 11) (.t 21) (.k (.bool false)), none, []⟩,
      ⟨(some 4), .mv (.t 22), none, []⟩])
    (.ret i_ref06_In_r))),
  [.tmp 4], [], false, [], false⟩

def i_ref06_Same_r : List Bool := [false, false, false, false, true, false, false, false, false, false, false, false, false, false, false, false, false, false, false, false, false, false, false, false, false, false, false, false, false, false, false, false, false, false, false, false, false, false, false, false, false, false, false, false, false]
def i_ref06_Same_j1 : List Bool := [true, true, false, false, false, true, false, false, false, false, false, false, false, false, false, false, false, false, false, false, false, false, false, false, false, false, false, false, false, false, false, false, false, false, false, false, false, false, false, false, false, false, false, false, false]
def i_ref06_Same_k0 : List Bool := [true, true, false, false, false, true, false, false, false, false, false, false, false, false, false, false, false, false, false, false, false, false, false, false, false, false, false, false, false, false, false, false, false, false, false, false, false, false, false, false, false, false, false, false, false]
def i_ref06_Same_j0 : List Bool := [false, false, false, false, false, false, false, false, false, false, false, false, false, false, false, false, false, false, false, false, false, false, false, false, false, false, false, false, false, false, false, false, false, false, false, false, false, false, false, false, false, false, false, false, false]
abbrev s_ref06_Same_R (t4 : AV) (h : Heap) : St := ⟨[.undef, .undef, .undef, .undef, t4, .undef, .undef, .undef, .undef, .undef, .undef, .undef, .undef, .undef, .undef, .undef, .undef, .undef, .undef, .undef, .undef, .undef, .undef, .undef, .undef, .undef, .undef, .undef, .undef, .undef, .undef, .undef, .undef, .undef, .undef, .undef, .undef, .undef, .undef, .undef, .undef, .undef, .undef, .undef, .undef], h⟩
abbrev s_ref06_Same_K0 (t0 t1 t5 : AV) (h : Heap) : St := ⟨[t0, t1, .undef, .undef, .undef, t5, .undef, .undef, .undef, .undef, .undef, .undef, .undef, .undef, .undef, .undef, .undef, .undef, .undef, .undef, .undef, .undef, .undef, .undef, .undef, .undef, .undef, .undef, .undef, .undef, .undef, .undef, .undef, .undef, .undef, .undef, .undef, .undef, .undef, .undef, .undef, .undef, .undef, .undef, .undef], h⟩
def i_ref06_Same_b0 : IR :=
  (.seq
   (.seq
    (.reg [] [
      ⟨(some 11), .mv (.t 5), none, []⟩,
      ⟨(some 12), .cn (.t 0), none, []⟩,
      ⟨(some 13), .len false (.t 12), none, []⟩,
      ⟨(some 14), .bin .plain .lss (.t 11) (.t 13), none, []⟩])
    (.cond (.t 14)
     .skip
     (.exit 0 i_ref06_Same_j0)))
   (.seq
    (.block 1 i_ref06_Same_j1
     (.seq
      (.reg [] [
        ⟨(some 17), .cn (.t 0), none, []⟩,
        ⟨(some 18), .mv (.t 5), none, []⟩,
        ⟨(some 19), .ia 2 (.t 17) (.t 18), none, []⟩,
        ⟨(some 20), .fa 0 (.t 19), none, []⟩,
        ⟨(some 21), .load false 1 (.t 20), none, []⟩,
        ⟨(some 22), .b2s (.t 21), none, []⟩,
        ⟨(some 23), .cn (.t 1), none, []⟩,
        ⟨(some 24), .mv (.t 5), none, []⟩,
        ⟨(some 25), .ia 2 (.t 23) (.t 24), none, []⟩,
        ⟨(some 26), .fa 0 (.t 25), none, []⟩,
        ⟨(some 27), .load false 1 (.t 26), none, []⟩,
        ⟨(some 28), .b2s (.t 27), none, []⟩,
        ⟨(some 29), .bin .plain .neq (.t 22) (.t 28), none, []⟩,
        ⟨(some 30), .mv (.t 29), none, []⟩,
        ⟨(some 31), .cn (.t 0), (some (30, false)), []⟩,
        ⟨(some 32), .mv (.t 5), (some (30, false)), []⟩,
        ⟨(some 33), .ia 2 (.t 31) (.t 32), (some (30, false)), []⟩,
        ⟨(some 34), .fa 1 (.t 33), (some (30, false)), []⟩,
        ⟨(some 35), .load false 1 (.t 34), (some (30, false)), []⟩,
        ⟨(some 36), .b2s (.t 35), (some (30, false)), []⟩,
        ⟨(some 37), .cn (.t 1), (some (30, false)), []⟩,
        ⟨(some 38), .mv (.t 5), (some (30, false)), []⟩,
        ⟨(some 39), .ia 2 (.t 37) (.t 38), (some (30, false)), []⟩,
        ⟨(some 40), .fa 1 (.t 39), (some (30, false)), []⟩,
        ⟨(some 41), .load false 1 (.t 40), (some (30, false)), []⟩,
        ⟨(some 42), .b2s (.t 41), (some (30, false)), []⟩,
        ⟨(some 43), .bin .plain .neq (.t 36) (.t 42), (some (30, false)), []⟩,
        ⟨(some 44), .pick (.t 30) (.k (.bool true)) (.t 43), none, []⟩])
      (.cond (.t 44)
       (.seq
        (.reg [] [
          ⟨(some 4), .mv (.k (.bool false)), none, []⟩])
        (.ret i_ref06_Same_r))
       .skip)))
    (.reg [] [
      ⟨(some 15), .mv (.t 5), none, []⟩,
      ⟨(some 16), .bin .plain .add (.t 15) (.k (.int .i64 1)), none, []⟩,
      ⟨(some 5), .mv (.t 16), none, []⟩])))

abbrev s_ref06_Same_J0 (h : Heap) : St := ⟨[.undef, .undef, .undef, .undef, .undef, .undef, .undef, .undef, .undef, .undef, .undef, .undef, .undef, .undef, .undef, .undef, .undef, .undef, .undef, .undef, .undef, .undef, .undef, .undef, .undef, .undef, .undef, .undef, .undef, .undef, .undef, .undef, .undef, .undef, .undef, .undef, .undef, .undef, .undef, .undef, .undef, .undef, .undef, .undef, .undef], h⟩
/-- heartwood/heartwoodref06.Same -/
def i_ref06_Same : Ev.Fn := ⟨2, 45, 0,
  (.seq
   (.reg [] [
     ⟨(some 4), .mv (.k (.bool false)), none, []⟩])
   (.seq
    (.seq
     (.reg [] [
       ⟨(some 6), .cn (.t 0), none, []⟩,
       ⟨(some 7), .len false (.t 6), none, []⟩,
       ⟨(some 8), .cn (.t 1), none, []⟩,
       ⟨(some 9), .len false (.t 8), none, []⟩,
       ⟨(some 10), .bin .plain .neq (.t 7) (.t 9), none, []⟩])
     (.cond (.t 10)
      (.seq
       (.reg [] [
         ⟨(some 4), .mv (.k (.bool false)), none, []⟩])
       (.ret i_ref06_Same_r))
      .skip))
    (.seq
     (.seq
      (.reg [] [
        ⟨(some 5), .mv (.k (.int .i64 0)), none, []⟩])
      (.block 0 i_ref06_Same_j0
       (.loop i_ref06_Same_k0 i_ref06_Same_b0)))
     (.seq
      (.reg [] [
        ⟨(some 4), .mv (.k (.bool true)), none, []⟩])
      (.ret i_ref06_Same_r))))),
  [.tmp 4], [], false, [], false⟩

def tab (f : Nat) : Option Ev.Fn := match f with
  | 3 => some i_law06_ScanStays
  | 4 => some i_law06_up
  | 11 => some i_scan_In
  | 18 => some i_bytes_Compare
  | 5 => some i_ref05_Grown
  | 12 => some i_ref05_Put
  | 19 => some i_ref05_Node
  | 20 => some i_ref05_level
  | 26 => some i_ref05_tilt
  | 32 => some i_ref04_Depth
  | 27 => some i_ref05_left
  | 28 => some i_ref05_right
  | 6 => some i_ref04_Copy
  | 1000007 => some i_scan_Range_v1
  | 13 => some i_avl_Is
  | 21 => some i_tree_Full
  | 23 => some i_tree_Check
  | 30 => some i_tree_deep
  | 35 => some i_tree_deep_1
  | 33 => some i_slices_ContainsFunc_sl_api_Tree_api_Tree
  | 37 => some i_slices_IndexFunc_sl_api_Tree_api_Tree
  | 31 => some i_tree_formed
  | 36 => some i_tree_formed_1
  | 29 => some i_tree_full
  | 34 => some i_tree_full_1
  | 14 => some i_tree_List
  | 24 => some i_tree_List_1
  | 22 => some i_avl_even
  | 1000015 => some i_slices_Clone_sl_byte_byte_v1
  | 8 => some i_ref04_Same
  | 10 => some i_ref06_Range
  | 16 => some i_ref04_List
  | 17 => some i_ref06_In
  | 9 => some i_ref06_Same
  | _ => none
theorem t_law06_ScanStays : tab n_law06_ScanStays = some i_law06_ScanStays := rfl
theorem t_law06_up : tab n_law06_up = some i_law06_up := rfl
theorem t_scan_In : tab n_scan_In = some i_scan_In := rfl
theorem t_bytes_Compare : tab n_bytes_Compare = some i_bytes_Compare := rfl
theorem t_ref05_Grown : tab n_ref05_Grown = some i_ref05_Grown := rfl
theorem t_ref05_Put : tab n_ref05_Put = some i_ref05_Put := rfl
theorem t_ref05_Node : tab n_ref05_Node = some i_ref05_Node := rfl
theorem t_ref05_level : tab n_ref05_level = some i_ref05_level := rfl
theorem t_ref05_tilt : tab n_ref05_tilt = some i_ref05_tilt := rfl
theorem t_ref04_Depth : tab n_ref04_Depth = some i_ref04_Depth := rfl
theorem t_ref05_left : tab n_ref05_left = some i_ref05_left := rfl
theorem t_ref05_right : tab n_ref05_right = some i_ref05_right := rfl
theorem t_ref04_Copy : tab n_ref04_Copy = some i_ref04_Copy := rfl
theorem t_scan_Range_v1 : tab n_scan_Range_v1 = some i_scan_Range_v1 := rfl
theorem t_avl_Is : tab n_avl_Is = some i_avl_Is := rfl
theorem t_tree_Full : tab n_tree_Full = some i_tree_Full := rfl
theorem t_tree_Check : tab n_tree_Check = some i_tree_Check := rfl
theorem t_tree_deep : tab n_tree_deep = some i_tree_deep := rfl
theorem t_tree_deep_1 : tab n_tree_deep_1 = some i_tree_deep_1 := rfl
theorem t_slices_ContainsFunc_sl_api_Tree_api_Tree : tab n_slices_ContainsFunc_sl_api_Tree_api_Tree = some i_slices_ContainsFunc_sl_api_Tree_api_Tree := rfl
theorem t_slices_IndexFunc_sl_api_Tree_api_Tree : tab n_slices_IndexFunc_sl_api_Tree_api_Tree = some i_slices_IndexFunc_sl_api_Tree_api_Tree := rfl
theorem t_tree_formed : tab n_tree_formed = some i_tree_formed := rfl
theorem t_tree_formed_1 : tab n_tree_formed_1 = some i_tree_formed_1 := rfl
theorem t_tree_full : tab n_tree_full = some i_tree_full := rfl
theorem t_tree_full_1 : tab n_tree_full_1 = some i_tree_full_1 := rfl
theorem t_tree_List : tab n_tree_List = some i_tree_List := rfl
theorem t_tree_List_1 : tab n_tree_List_1 = some i_tree_List_1 := rfl
theorem t_avl_even : tab n_avl_even = some i_avl_even := rfl
theorem t_slices_Clone_sl_byte_byte_v1 : tab n_slices_Clone_sl_byte_byte_v1 = some i_slices_Clone_sl_byte_byte_v1 := rfl
theorem t_ref04_Same : tab n_ref04_Same = some i_ref04_Same := rfl
theorem t_ref06_Range : tab n_ref06_Range = some i_ref06_Range := rfl
theorem t_ref04_List : tab n_ref04_List = some i_ref04_List := rfl
theorem t_ref06_In : tab n_ref06_In = some i_ref06_In := rfl
theorem t_ref06_Same : tab n_ref06_Same = some i_ref06_Same := rfl
def G0 : Cf := ⟨fun _ => [], true, noX⟩
theorem G0_gf : G0.gf = true := rfl
attribute [go_sem] G0_gf
theorem lt_law06_ScanStays : (n_law06_ScanStays < 1000000) = True := eq_true (by decide)
attribute [go_sem] lt_law06_ScanStays
theorem lt_law06_up : (n_law06_up < 1000000) = True := eq_true (by decide)
attribute [go_sem] lt_law06_up
theorem lt_scan_In : (n_scan_In < 1000000) = True := eq_true (by decide)
attribute [go_sem] lt_scan_In
theorem lt_bytes_Compare : (n_bytes_Compare < 1000000) = True := eq_true (by decide)
attribute [go_sem] lt_bytes_Compare
theorem lt_ref05_Grown : (n_ref05_Grown < 1000000) = True := eq_true (by decide)
attribute [go_sem] lt_ref05_Grown
theorem lt_ref05_Put : (n_ref05_Put < 1000000) = True := eq_true (by decide)
attribute [go_sem] lt_ref05_Put
theorem lt_ref05_Node : (n_ref05_Node < 1000000) = True := eq_true (by decide)
attribute [go_sem] lt_ref05_Node
theorem lt_ref05_level : (n_ref05_level < 1000000) = True := eq_true (by decide)
attribute [go_sem] lt_ref05_level
theorem lt_ref05_tilt : (n_ref05_tilt < 1000000) = True := eq_true (by decide)
attribute [go_sem] lt_ref05_tilt
theorem lt_ref04_Depth : (n_ref04_Depth < 1000000) = True := eq_true (by decide)
attribute [go_sem] lt_ref04_Depth
theorem lt_ref05_left : (n_ref05_left < 1000000) = True := eq_true (by decide)
attribute [go_sem] lt_ref05_left
theorem lt_ref05_right : (n_ref05_right < 1000000) = True := eq_true (by decide)
attribute [go_sem] lt_ref05_right
theorem lt_ref04_Copy : (n_ref04_Copy < 1000000) = True := eq_true (by decide)
attribute [go_sem] lt_ref04_Copy
theorem lt_avl_Is : (n_avl_Is < 1000000) = True := eq_true (by decide)
attribute [go_sem] lt_avl_Is
theorem lt_tree_Full : (n_tree_Full < 1000000) = True := eq_true (by decide)
attribute [go_sem] lt_tree_Full
theorem lt_tree_Check : (n_tree_Check < 1000000) = True := eq_true (by decide)
attribute [go_sem] lt_tree_Check
theorem lt_tree_deep : (n_tree_deep < 1000000) = True := eq_true (by decide)
attribute [go_sem] lt_tree_deep
theorem lt_tree_deep_1 : (n_tree_deep_1 < 1000000) = True := eq_true (by decide)
attribute [go_sem] lt_tree_deep_1
theorem lt_slices_ContainsFunc_sl_api_Tree_api_Tree : (n_slices_ContainsFunc_sl_api_Tree_api_Tree < 1000000) = True := eq_true (by decide)
attribute [go_sem] lt_slices_ContainsFunc_sl_api_Tree_api_Tree
theorem lt_slices_IndexFunc_sl_api_Tree_api_Tree : (n_slices_IndexFunc_sl_api_Tree_api_Tree < 1000000) = True := eq_true (by decide)
attribute [go_sem] lt_slices_IndexFunc_sl_api_Tree_api_Tree
theorem lt_tree_formed : (n_tree_formed < 1000000) = True := eq_true (by decide)
attribute [go_sem] lt_tree_formed
theorem lt_tree_formed_1 : (n_tree_formed_1 < 1000000) = True := eq_true (by decide)
attribute [go_sem] lt_tree_formed_1
theorem lt_tree_full : (n_tree_full < 1000000) = True := eq_true (by decide)
attribute [go_sem] lt_tree_full
theorem lt_tree_full_1 : (n_tree_full_1 < 1000000) = True := eq_true (by decide)
attribute [go_sem] lt_tree_full_1
theorem lt_tree_List : (n_tree_List < 1000000) = True := eq_true (by decide)
attribute [go_sem] lt_tree_List
theorem lt_tree_List_1 : (n_tree_List_1 < 1000000) = True := eq_true (by decide)
attribute [go_sem] lt_tree_List_1
theorem lt_avl_even : (n_avl_even < 1000000) = True := eq_true (by decide)
attribute [go_sem] lt_avl_even
theorem lt_ref04_Same : (n_ref04_Same < 1000000) = True := eq_true (by decide)
attribute [go_sem] lt_ref04_Same
theorem lt_ref06_Range : (n_ref06_Range < 1000000) = True := eq_true (by decide)
attribute [go_sem] lt_ref06_Range
theorem lt_ref04_List : (n_ref04_List < 1000000) = True := eq_true (by decide)
attribute [go_sem] lt_ref04_List
theorem lt_ref06_In : (n_ref06_In < 1000000) = True := eq_true (by decide)
attribute [go_sem] lt_ref06_In
theorem lt_ref06_Same : (n_ref06_Same < 1000000) = True := eq_true (by decide)
attribute [go_sem] lt_ref06_Same
theorem ca_law06_ScanStays (l : List AV) : cArgs tab n_law06_ScanStays l = canonA [] l := rfl
attribute [go_sem] t_law06_ScanStays ca_law06_ScanStays
theorem ca_law06_up (l : List AV) : cArgs tab n_law06_up l = canonA [] l := rfl
attribute [go_sem] t_law06_up ca_law06_up
theorem ca_scan_In (l : List AV) : cArgs tab n_scan_In l = canonA [] l := rfl
attribute [go_sem] t_scan_In ca_scan_In
theorem ca_bytes_Compare (l : List AV) : cArgs tab n_bytes_Compare l = canonA [] l := rfl
attribute [go_sem] t_bytes_Compare ca_bytes_Compare
theorem ca_ref05_Grown (l : List AV) : cArgs tab n_ref05_Grown l = canonA [] l := rfl
attribute [go_sem] t_ref05_Grown ca_ref05_Grown
theorem ca_ref05_Put (l : List AV) : cArgs tab n_ref05_Put l = canonA [] l := rfl
attribute [go_sem] t_ref05_Put ca_ref05_Put
theorem ca_ref05_Node (l : List AV) : cArgs tab n_ref05_Node l = canonA [] l := rfl
attribute [go_sem] t_ref05_Node ca_ref05_Node
theorem ca_ref05_level (l : List AV) : cArgs tab n_ref05_level l = canonA [] l := rfl
attribute [go_sem] t_ref05_level ca_ref05_level
theorem ca_ref05_tilt (l : List AV) : cArgs tab n_ref05_tilt l = canonA [] l := rfl
attribute [go_sem] t_ref05_tilt ca_ref05_tilt
theorem ca_ref04_Depth (l : List AV) : cArgs tab n_ref04_Depth l = canonA [] l := rfl
attribute [go_sem] t_ref04_Depth ca_ref04_Depth
theorem ca_ref05_left (l : List AV) : cArgs tab n_ref05_left l = canonA [] l := rfl
attribute [go_sem] t_ref05_left ca_ref05_left
theorem ca_ref05_right (l : List AV) : cArgs tab n_ref05_right l = canonA [] l := rfl
attribute [go_sem] t_ref05_right ca_ref05_right
theorem ca_ref04_Copy (l : List AV) : cArgs tab n_ref04_Copy l = canonA [] l := rfl
attribute [go_sem] t_ref04_Copy ca_ref04_Copy
theorem ca_scan_Range_v1 (l : List AV) : cArgs tab n_scan_Range_v1 l = canonA [] l := rfl
attribute [go_sem] t_scan_Range_v1 ca_scan_Range_v1
theorem ca_avl_Is (l : List AV) : cArgs tab n_avl_Is l = canonA [] l := rfl
attribute [go_sem] t_avl_Is ca_avl_Is
theorem ca_tree_Full (l : List AV) : cArgs tab n_tree_Full l = canonA [] l := rfl
attribute [go_sem] t_tree_Full ca_tree_Full
theorem ca_tree_Check (l : List AV) : cArgs tab n_tree_Check l = canonA [] l := rfl
attribute [go_sem] t_tree_Check ca_tree_Check
theorem ca_tree_deep (l : List AV) : cArgs tab n_tree_deep l = canonA [] l := rfl
attribute [go_sem] t_tree_deep ca_tree_deep
theorem ca_tree_deep_1 (l : List AV) : cArgs tab n_tree_deep_1 l = canonA [] l := rfl
attribute [go_sem] t_tree_deep_1 ca_tree_deep_1
theorem ca_slices_ContainsFunc_sl_api_Tree_api_Tree (l : List AV) : cArgs tab n_slices_ContainsFunc_sl_api_Tree_api_Tree l = canonA [] l := rfl
attribute [go_sem] t_slices_ContainsFunc_sl_api_Tree_api_Tree ca_slices_ContainsFunc_sl_api_Tree_api_Tree
theorem ca_slices_IndexFunc_sl_api_Tree_api_Tree (l : List AV) : cArgs tab n_slices_IndexFunc_sl_api_Tree_api_Tree l = canonA [] l := rfl
attribute [go_sem] t_slices_IndexFunc_sl_api_Tree_api_Tree ca_slices_IndexFunc_sl_api_Tree_api_Tree
theorem ca_tree_formed (l : List AV) : cArgs tab n_tree_formed l = canonA [] l := rfl
attribute [go_sem] t_tree_formed ca_tree_formed
theorem ca_tree_formed_1 (l : List AV) : cArgs tab n_tree_formed_1 l = canonA [] l := rfl
attribute [go_sem] t_tree_formed_1 ca_tree_formed_1
theorem ca_tree_full (l : List AV) : cArgs tab n_tree_full l = canonA [] l := rfl
attribute [go_sem] t_tree_full ca_tree_full
theorem ca_tree_full_1 (l : List AV) : cArgs tab n_tree_full_1 l = canonA [] l := rfl
attribute [go_sem] t_tree_full_1 ca_tree_full_1
theorem ca_tree_List (l : List AV) : cArgs tab n_tree_List l = canonA [] l := rfl
attribute [go_sem] t_tree_List ca_tree_List
theorem ca_tree_List_1 (l : List AV) : cArgs tab n_tree_List_1 l = canonA [] l := rfl
attribute [go_sem] t_tree_List_1 ca_tree_List_1
theorem ca_avl_even (l : List AV) : cArgs tab n_avl_even l = canonA [] l := rfl
attribute [go_sem] t_avl_even ca_avl_even
theorem ca_slices_Clone_sl_byte_byte_v1 (l : List AV) : cArgs tab n_slices_Clone_sl_byte_byte_v1 l = canonA [] l := rfl
attribute [go_sem] t_slices_Clone_sl_byte_byte_v1 ca_slices_Clone_sl_byte_byte_v1
theorem ca_ref04_Same (l : List AV) : cArgs tab n_ref04_Same l = canonA [] l := rfl
attribute [go_sem] t_ref04_Same ca_ref04_Same
theorem ca_ref06_Range (l : List AV) : cArgs tab n_ref06_Range l = canonA [] l := rfl
attribute [go_sem] t_ref06_Range ca_ref06_Range
theorem ca_ref04_List (l : List AV) : cArgs tab n_ref04_List l = canonA [] l := rfl
attribute [go_sem] t_ref04_List ca_ref04_List
theorem ca_ref06_In (l : List AV) : cArgs tab n_ref06_In l = canonA [] l := rfl
attribute [go_sem] t_ref06_In ca_ref06_In
theorem ca_ref06_Same (l : List AV) : cArgs tab n_ref06_Same l = canonA [] l := rfl
attribute [go_sem] t_ref06_Same ca_ref06_Same
theorem kl_law06_ScanStays_r : i_law06_ScanStays_r.length = 91 := rfl
attribute [go_sem] kl_law06_ScanStays_r
theorem kl_law06_ScanStays_j3 : i_law06_ScanStays_j3.length = 91 := rfl
attribute [go_sem] kl_law06_ScanStays_j3
theorem kl_law06_ScanStays_k1 : i_law06_ScanStays_k1.length = 91 := rfl
attribute [go_sem] kl_law06_ScanStays_k1
theorem kl_law06_ScanStays_j2 : i_law06_ScanStays_j2.length = 91 := rfl
attribute [go_sem] kl_law06_ScanStays_j2
theorem kl_law06_ScanStays_j1 : i_law06_ScanStays_j1.length = 91 := rfl
attribute [go_sem] kl_law06_ScanStays_j1
theorem kl_law06_ScanStays_k0 : i_law06_ScanStays_k0.length = 91 := rfl
attribute [go_sem] kl_law06_ScanStays_k0
theorem kl_law06_ScanStays_j0 : i_law06_ScanStays_j0.length = 91 := rfl
attribute [go_sem] kl_law06_ScanStays_j0
theorem kl_law06_up_r : i_law06_up_r.length = 22 := rfl
attribute [go_sem] kl_law06_up_r
theorem kl_scan_In_r : i_scan_In_r.length = 21 := rfl
attribute [go_sem] kl_scan_In_r
theorem kl_bytes_Compare_r : i_bytes_Compare_r.length = 8 := rfl
attribute [go_sem] kl_bytes_Compare_r
theorem kl_ref05_Grown_r : i_ref05_Grown_r.length = 45 := rfl
attribute [go_sem] kl_ref05_Grown_r
theorem kl_ref05_Grown_j1 : i_ref05_Grown_j1.length = 45 := rfl
attribute [go_sem] kl_ref05_Grown_j1
theorem kl_ref05_Grown_k0 : i_ref05_Grown_k0.length = 45 := rfl
attribute [go_sem] kl_ref05_Grown_k0
theorem kl_ref05_Grown_j0 : i_ref05_Grown_j0.length = 45 := rfl
attribute [go_sem] kl_ref05_Grown_j0
theorem kl_ref05_Put_r : i_ref05_Put_r.length = 73 := rfl
attribute [go_sem] kl_ref05_Put_r
theorem kl_ref05_Node_r : i_ref05_Node_r.length = 15 := rfl
attribute [go_sem] kl_ref05_Node_r
theorem kl_ref05_level_r : i_ref05_level_r.length = 55 := rfl
attribute [go_sem] kl_ref05_level_r
theorem kl_ref05_tilt_r : i_ref05_tilt_r.length = 14 := rfl
attribute [go_sem] kl_ref05_tilt_r
theorem kl_ref04_Depth_r : i_ref04_Depth_r.length = 26 := rfl
attribute [go_sem] kl_ref04_Depth_r
theorem kl_ref05_left_r : i_ref05_left_r.length = 30 := rfl
attribute [go_sem] kl_ref05_left_r
theorem kl_ref05_right_r : i_ref05_right_r.length = 30 := rfl
attribute [go_sem] kl_ref05_right_r
theorem kl_ref04_Copy_r : i_ref04_Copy_r.length = 39 := rfl
attribute [go_sem] kl_ref04_Copy_r
theorem kl_ref04_Copy_j1 : i_ref04_Copy_j1.length = 39 := rfl
attribute [go_sem] kl_ref04_Copy_j1
theorem kl_ref04_Copy_k0 : i_ref04_Copy_k0.length = 39 := rfl
attribute [go_sem] kl_ref04_Copy_k0
theorem kl_ref04_Copy_j0 : i_ref04_Copy_j0.length = 39 := rfl
attribute [go_sem] kl_ref04_Copy_j0
theorem kl_scan_Range_v1_r : i_scan_Range_v1_r.length = 37 := rfl
attribute [go_sem] kl_scan_Range_v1_r
theorem kl_scan_Range_v1_j1 : i_scan_Range_v1_j1.length = 37 := rfl
attribute [go_sem] kl_scan_Range_v1_j1
theorem kl_scan_Range_v1_k0 : i_scan_Range_v1_k0.length = 37 := rfl
attribute [go_sem] kl_scan_Range_v1_k0
theorem kl_scan_Range_v1_j0 : i_scan_Range_v1_j0.length = 37 := rfl
attribute [go_sem] kl_scan_Range_v1_j0
theorem kl_avl_Is_r : i_avl_Is_r.length = 37 := rfl
attribute [go_sem] kl_avl_Is_r
theorem kl_avl_Is_j1 : i_avl_Is_j1.length = 37 := rfl
attribute [go_sem] kl_avl_Is_j1
theorem kl_avl_Is_k0 : i_avl_Is_k0.length = 37 := rfl
attribute [go_sem] kl_avl_Is_k0
theorem kl_avl_Is_j0 : i_avl_Is_j0.length = 37 := rfl
attribute [go_sem] kl_avl_Is_j0
theorem kl_tree_Full_r : i_tree_Full_r.length = 10 := rfl
attribute [go_sem] kl_tree_Full_r
theorem kl_tree_Check_r : i_tree_Check_r.length = 12 := rfl
attribute [go_sem] kl_tree_Check_r
theorem kl_tree_Check_j0 : i_tree_Check_j0.length = 12 := rfl
attribute [go_sem] kl_tree_Check_j0
theorem kl_tree_deep_r : i_tree_deep_r.length = 29 := rfl
attribute [go_sem] kl_tree_deep_r
theorem kl_tree_deep_1_r : i_tree_deep_1_r.length = 8 := rfl
attribute [go_sem] kl_tree_deep_1_r
theorem kl_slices_ContainsFunc_sl_api_Tree_api_Tree_r : i_slices_ContainsFunc_sl_api_Tree_api_Tree_r.length = 9 := rfl
attribute [go_sem] kl_slices_ContainsFunc_sl_api_Tree_api_Tree_r
theorem kl_slices_IndexFunc_sl_api_Tree_api_Tree_r : i_slices_IndexFunc_sl_api_Tree_api_Tree_r.length = 19 := rfl
attribute [go_sem] kl_slices_IndexFunc_sl_api_Tree_api_Tree_r
theorem kl_slices_IndexFunc_sl_api_Tree_api_Tree_j1 : i_slices_IndexFunc_sl_api_Tree_api_Tree_j1.length = 19 := rfl
attribute [go_sem] kl_slices_IndexFunc_sl_api_Tree_api_Tree_j1
theorem kl_slices_IndexFunc_sl_api_Tree_api_Tree_k0 : i_slices_IndexFunc_sl_api_Tree_api_Tree_k0.length = 19 := rfl
attribute [go_sem] kl_slices_IndexFunc_sl_api_Tree_api_Tree_k0
theorem kl_slices_IndexFunc_sl_api_Tree_api_Tree_j0 : i_slices_IndexFunc_sl_api_Tree_api_Tree_j0.length = 19 := rfl
attribute [go_sem] kl_slices_IndexFunc_sl_api_Tree_api_Tree_j0
theorem kl_tree_formed_r : i_tree_formed_r.length = 87 := rfl
attribute [go_sem] kl_tree_formed_r
theorem kl_tree_formed_j0 : i_tree_formed_j0.length = 87 := rfl
attribute [go_sem] kl_tree_formed_j0
theorem kl_tree_formed_1_r : i_tree_formed_1_r.length = 6 := rfl
attribute [go_sem] kl_tree_formed_1_r
theorem kl_tree_full_r : i_tree_full_r.length = 15 := rfl
attribute [go_sem] kl_tree_full_r
theorem kl_tree_full_1_r : i_tree_full_1_r.length = 6 := rfl
attribute [go_sem] kl_tree_full_1_r
theorem kl_tree_List_r : i_tree_List_r.length = 13 := rfl
attribute [go_sem] kl_tree_List_r
theorem kl_tree_List_1_r : i_tree_List_1_r.length = 26 := rfl
attribute [go_sem] kl_tree_List_1_r
theorem kl_avl_even_r : i_avl_even_r.length = 48 := rfl
attribute [go_sem] kl_avl_even_r
theorem kl_slices_Clone_sl_byte_byte_v1_r : i_slices_Clone_sl_byte_byte_v1_r.length = 9 := rfl
attribute [go_sem] kl_slices_Clone_sl_byte_byte_v1_r
theorem kl_ref04_Same_r : i_ref04_Same_r.length = 68 := rfl
attribute [go_sem] kl_ref04_Same_r
theorem kl_ref04_Same_j1 : i_ref04_Same_j1.length = 68 := rfl
attribute [go_sem] kl_ref04_Same_j1
theorem kl_ref04_Same_k0 : i_ref04_Same_k0.length = 68 := rfl
attribute [go_sem] kl_ref04_Same_k0
theorem kl_ref04_Same_j0 : i_ref04_Same_j0.length = 68 := rfl
attribute [go_sem] kl_ref04_Same_j0
theorem kl_ref06_Range_r : i_ref06_Range_r.length = 40 := rfl
attribute [go_sem] kl_ref06_Range_r
theorem kl_ref06_Range_j1 : i_ref06_Range_j1.length = 40 := rfl
attribute [go_sem] kl_ref06_Range_j1
theorem kl_ref06_Range_k0 : i_ref06_Range_k0.length = 40 := rfl
attribute [go_sem] kl_ref06_Range_k0
theorem kl_ref06_Range_j0 : i_ref06_Range_j0.length = 40 := rfl
attribute [go_sem] kl_ref06_Range_j0
theorem kl_ref04_List_r : i_ref04_List_r.length = 26 := rfl
attribute [go_sem] kl_ref04_List_r
theorem kl_ref06_In_r : i_ref06_In_r.length = 23 := rfl
attribute [go_sem] kl_ref06_In_r
theorem kl_ref06_Same_r : i_ref06_Same_r.length = 45 := rfl
attribute [go_sem] kl_ref06_Same_r
theorem kl_ref06_Same_j1 : i_ref06_Same_j1.length = 45 := rfl
attribute [go_sem] kl_ref06_Same_j1
theorem kl_ref06_Same_k0 : i_ref06_Same_k0.length = 45 := rfl
attribute [go_sem] kl_ref06_Same_k0
theorem kl_ref06_Same_j0 : i_ref06_Same_j0.length = 45 := rfl
attribute [go_sem] kl_ref06_Same_j0
theorem kt_law06_ScanStays_r (l : List AV) : keepT i_law06_ScanStays_r l = keepT [false, false, false, false, true, false, false, false, false, false, false, false, false, false, false, false, false, false, false, false, false, false, false, false, false, false, false, false, false, false, false, false, false, false, false, false, false, false, false, false, false, false, false, false, false, false, false, false, false, false, false, false, false, false, false, false, false, false, false, false, false, false, false, false, false, false, false, false, false, false, false, false, false, false, false, false, false, false, false, false, false, false, false, false, false, false, false, false, false, false, false] l := rfl
attribute [go_sem] kt_law06_ScanStays_r
theorem kt_law06_ScanStays_j3 (l : List AV) : keepT i_law06_ScanStays_j3 l = keepT [false, false, false, true, false, true, true, true, true, true, true, true, true, false, false, false, false, false, false, false, false, false, false, false, false, false, false, false, false, false, false, false, false, false, false, false, false, false, false, false, false, false, false, false, false, false, false, false, false, false, false, false, false, false, false, false, false, false, false, false, false, false, false, false, false, false, false, false, false, false, false, false, false, false, false, false, false, false, false, false, false, false, false, false, false, false, false, false, false, false, false] l := rfl
attribute [go_sem] kt_law06_ScanStays_j3
theorem kt_law06_ScanStays_k1 (l : List AV) : keepT i_law06_ScanStays_k1 l = keepT [false, false, false, true, false, true, true, true, true, true, true, true, true, false, false, false, false, false, false, false, false, false, false, false, false, false, false, false, false, false, false, false, false, false, false, false, false, false, false, false, false, false, false, false, false, false, false, false, false, false, false, false, false, false, false, false, false, false, false, false, false, false, false, false, false, false, false, false, false, false, false, false, false, false, false, false, false, false, false, false, false, false, false, false, false, false, false, false, false, false, false] l := rfl
attribute [go_sem] kt_law06_ScanStays_k1
theorem kt_law06_ScanStays_j2 (l : List AV) : keepT i_law06_ScanStays_j2 l = keepT [false, false, false, true, false, true, true, true, true, true, true, true, false, false, false, false, false, false, false, false, false, false, false, false, false, false, false, false, false, false, false, false, false, false, false, false, false, false, false, false, false, false, false, false, false, false, false, false, false, false, false, false, false, false, false, false, false, false, false, false, false, false, false, false, false, false, false, false, false, false, false, false, false, false, false, false, false, false, false, false, false, false, false, false, false, false, false, false, false, false, false] l := rfl
attribute [go_sem] kt_law06_ScanStays_j2
theorem kt_law06_ScanStays_j1 (l : List AV) : keepT i_law06_ScanStays_j1 l = keepT [false, false, false, true, false, true, true, true, true, true, true, true, false, false, false, false, false, false, false, false, false, false, false, false, false, false, false, false, false, false, false, false, false, false, false, false, false, false, false, false, false, false, false, false, false, false, false, false, false, false, false, false, false, false, false, false, false, false, false, false, false, false, false, false, false, false, false, false, false, false, false, false, false, false, false, false, false, false, false, false, false, false, false, false, false, false, false, false, false, false, false] l := rfl
attribute [go_sem] kt_law06_ScanStays_j1
theorem kt_law06_ScanStays_k0 (l : List AV) : keepT i_law06_ScanStays_k0 l = keepT [false, false, false, true, false, true, true, true, true, true, true, true, false, false, false, false, false, false, false, false, false, false, false, false, false, false, false, false, false, false, false, false, false, false, false, false, false, false, false, false, false, false, false, false, false, false, false, false, false, false, false, false, false, false, false, false, false, false, false, false, false, false, false, false, false, false, false, false, false, false, false, false, false, false, false, false, false, false, false, false, false, false, false, false, false, false, false, false, false, false, false] l := rfl
attribute [go_sem] kt_law06_ScanStays_k0
theorem kt_law06_ScanStays_j0 (l : List AV) : keepT i_law06_ScanStays_j0 l = keepT [false, false, false, true, false, true, true, true, false, true, true, false, false, false, false, false, false, false, false, false, false, false, false, false, false, false, false, false, false, false, false, false, false, false, false, false, false, false, false, false, false, false, false, false, false, false, false, false, false, false, false, false, false, false, false, false, false, false, false, false, false, false, false, false, false, false, false, false, false, false, false, false, false, false, false, false, false, false, false, false, false, false, false, false, false, false, false, false, false, false, false] l := rfl
attribute [go_sem] kt_law06_ScanStays_j0
theorem kt_law06_up_r (l : List AV) : keepT i_law06_up_r l = keepT [true, false, false, false, false, false, false, false, false, false, false, false, false, false, false, false, false, false, false, false, false, false] l := rfl
attribute [go_sem] kt_law06_up_r
theorem kt_scan_In_r (l : List AV) : keepT i_scan_In_r l = keepT [false, false, false, false, true, false, false, false, false, false, false, false, false, false, false, false, false, false, false, false, false] l := rfl
attribute [go_sem] kt_scan_In_r
theorem kt_bytes_Compare_r (l : List AV) : keepT i_bytes_Compare_r l = keepT [false, false, false, false, true, false, false, false] l := rfl
attribute [go_sem] kt_bytes_Compare_r
theorem kt_ref05_Grown_r (l : List AV) : keepT i_ref05_Grown_r l = keepT [false, false, true, false, false, false, false, false, false, false, false, false, false, false, false, false, false, false, false, false, false, false, false, false, false, false, false, false, false, false, false, false, false, false, false, false, false, false, false, false, false, false, false, false, false] l := rfl
attribute [go_sem] kt_ref05_Grown_r
theorem kt_ref05_Grown_j1 (l : List AV) : keepT i_ref05_Grown_j1 l = keepT [true, false, true, true, true, false, false, false, false, false, false, false, false, false, false, false, false, false, false, false, false, false, false, false, false, false, false, false, false, false, false, false, false, false, false, false, false, false, false, false, false, false, false, false, false] l := rfl
attribute [go_sem] kt_ref05_Grown_j1
theorem kt_ref05_Grown_k0 (l : List AV) : keepT i_ref05_Grown_k0 l = keepT [true, false, true, true, true, false, false, false, false, false, false, false, false, false, false, false, false, false, false, false, false, false, false, false, false, false, false, false, false, false, false, false, false, false, false, false, false, false, false, false, false, false, false, false, false] l := rfl
attribute [go_sem] kt_ref05_Grown_k0
theorem kt_ref05_Grown_j0 (l : List AV) : keepT i_ref05_Grown_j0 l = keepT [false, false, true, true, false, false, false, false, false, false, false, false, false, false, false, false, false, false, false, false, false, false, false, false, false, false, false, false, false, false, false, false, false, false, false, false, false, false, false, false, false, false, false, false, false] l := rfl
attribute [go_sem] kt_ref05_Grown_j0
theorem kt_ref05_Put_r (l : List AV) : keepT i_ref05_Put_r l = keepT [false, false, false, false, false, false, true, false, false, false, false, false, false, false, false, false, false, false, false, false, false, false, false, false, false, false, false, false, false, false, false, false, false, false, false, false, false, false, false, false, false, false, false, false, false, false, false, false, false, false, false, false, false, false, false, false, false, false, false, false, false, false, false, false, false, false, false, false, false, false, false, false, false] l := rfl
attribute [go_sem] kt_ref05_Put_r
theorem kt_ref05_Node_r (l : List AV) : keepT i_ref05_Node_r l = keepT [false, false, false, false, false, false, false, false, true, false, false, false, false, false, false] l := rfl
attribute [go_sem] kt_ref05_Node_r
theorem kt_ref05_level_r (l : List AV) : keepT i_ref05_level_r l = keepT [false, false, true, false, false, false, false, false, false, false, false, false, false, false, false, false, false, false, false, false, false, false, false, false, false, false, false, false, false, false, false, false, false, false, false, false, false, false, false, false, false, false, false, false, false, false, false, false, false, false, false, false, false, false, false] l := rfl
attribute [go_sem] kt_ref05_level_r
theorem kt_ref05_tilt_r (l : List AV) : keepT i_ref05_tilt_r l = keepT [false, false, true, false, false, false, false, false, false, false, false, false, false, false] l := rfl
attribute [go_sem] kt_ref05_tilt_r
theorem kt_ref04_Depth_r (l : List AV) : keepT i_ref04_Depth_r l = keepT [false, false, true, false, false, false, false, false, false, false, false, false, false, false, false, false, false, false, false, false, false, false, false, false, false, false] l := rfl
attribute [go_sem] kt_ref04_Depth_r
theorem kt_ref05_left_r (l : List AV) : keepT i_ref05_left_r l = keepT [false, false, true, false, false, false, false, false, false, false, false, false, false, false, false, false, false, false, false, false, false, false, false, false, false, false, false, false, false, false] l := rfl
attribute [go_sem] kt_ref05_left_r
theorem kt_ref05_right_r (l : List AV) : keepT i_ref05_right_r l = keepT [false, false, true, false, false, false, false, false, false, false, false, false, false, false, false, false, false, false, false, false, false, false, false, false, false, false, false, false, false, false] l := rfl
attribute [go_sem] kt_ref05_right_r
theorem kt_ref04_Copy_r (l : List AV) : keepT i_ref04_Copy_r l = keepT [false, false, true, false, false, false, false, false, false, false, false, false, false, false, false, false, false, false, false, false, false, false, false, false, false, false, false, false, false, false, false, false, false, false, false, false, false, false, false] l := rfl
attribute [go_sem] kt_ref04_Copy_r
theorem kt_ref04_Copy_j1 (l : List AV) : keepT i_ref04_Copy_j1 l = keepT [false, true, true, true, true, false, false, false, false, false, false, false, false, false, false, false, false, false, false, false, false, false, false, false, false, false, false, false, false, false, false, false, false, false, false, false, false, false, false] l := rfl
attribute [go_sem] kt_ref04_Copy_j1
theorem kt_ref04_Copy_k0 (l : List AV) : keepT i_ref04_Copy_k0 l = keepT [false, true, true, true, true, false, false, false, false, false, false, false, false, false, false, false, false, false, false, false, false, false, false, false, false, false, false, false, false, false, false, false, false, false, false, false, false, false, false] l := rfl
attribute [go_sem] kt_ref04_Copy_k0
theorem kt_ref04_Copy_j0 (l : List AV) : keepT i_ref04_Copy_j0 l = keepT [false, false, true, true, false, false, false, false, false, false, false, false, false, false, false, false, false, false, false, false, false, false, false, false, false, false, false, false, false, false, false, false, false, false, false, false, false, false, false] l := rfl
attribute [go_sem] kt_ref04_Copy_j0
theorem kt_scan_Range_v1_r (l : List AV) : keepT i_scan_Range_v1_r l = keepT [false, false, false, false, true, true, false, false, false, false, false, false, false, false, false, false, false, false, false, false, false, false, false, false, false, false, false, false, false, false, false, false, false, false, false, false, true] l := rfl
attribute [go_sem] kt_scan_Range_v1_r
theorem kt_scan_Range_v1_j1 (l : List AV) : keepT i_scan_Range_v1_j1 l = keepT [false, false, false, true, false, false, true, false, false, false, false, false, false, false, true, true, true, false, false, false, false, false, false, false, false, false, false, false, false, false, false, false, false, false, false, false, true] l := rfl
attribute [go_sem] kt_scan_Range_v1_j1
theorem kt_scan_Range_v1_k0 (l : List AV) : keepT i_scan_Range_v1_k0 l = keepT [false, false, false, true, false, false, true, false, false, false, false, false, false, false, true, true, true, false, false, false, false, false, false, false, false, false, false, false, false, false, false, false, false, false, false, false, true] l := rfl
attribute [go_sem] kt_scan_Range_v1_k0
theorem kt_scan_Range_v1_j0 (l : List AV) : keepT i_scan_Range_v1_j0 l = keepT [false, false, false, false, false, false, true, false, false, false, false, false, false, false, false, false, false, false, false, false, false, false, false, false, false, false, false, false, false, false, false, false, false, false, false, false, true] l := rfl
attribute [go_sem] kt_scan_Range_v1_j0
theorem kt_avl_Is_r (l : List AV) : keepT i_avl_Is_r l = keepT [false, false, true, false, false, false, false, false, false, false, false, false, false, false, false, false, false, false, false, false, false, false, false, false, false, false, false, false, false, false, false, false, false, false, false, false, false] l := rfl
attribute [go_sem] kt_avl_Is_r
theorem kt_avl_Is_j1 (l : List AV) : keepT i_avl_Is_j1 l = keepT [false, true, false, true, true, false, false, false, false, false, false, false, false, false, false, false, false, false, false, false, false, false, false, false, false, false, false, false, false, false, false, false, false, false, false, false, false] l := rfl
attribute [go_sem] kt_avl_Is_j1
theorem kt_avl_Is_k0 (l : List AV) : keepT i_avl_Is_k0 l = keepT [false, true, false, true, true, false, false, false, false, false, false, false, false, false, false, false, false, false, false, false, false, false, false, false, false, false, false, false, false, false, false, false, false, false, false, false, false] l := rfl
attribute [go_sem] kt_avl_Is_k0
theorem kt_avl_Is_j0 (l : List AV) : keepT i_avl_Is_j0 l = keepT [false, true, false, false, false, false, false, false, false, false, false, false, false, false, false, false, false, false, false, false, false, false, false, false, false, false, false, false, false, false, false, false, false, false, false, false, false] l := rfl
attribute [go_sem] kt_avl_Is_j0
theorem kt_tree_Full_r (l : List AV) : keepT i_tree_Full_r l = keepT [false, false, true, false, false, false, false, false, false, false] l := rfl
attribute [go_sem] kt_tree_Full_r
theorem kt_tree_Check_r (l : List AV) : keepT i_tree_Check_r l = keepT [false, false, true, false, false, false, false, false, false, false, false, false] l := rfl
attribute [go_sem] kt_tree_Check_r
theorem kt_tree_Check_j0 (l : List AV) : keepT i_tree_Check_j0 l = keepT [false, false, false, false, false, false, false, false, false, false, false, false] l := rfl
attribute [go_sem] kt_tree_Check_j0
theorem kt_tree_deep_r (l : List AV) : keepT i_tree_deep_r l = keepT [false, false, false, false, true, false, false, false, false, false, false, false, false, false, false, false, false, false, false, false, false, false, false, false, false, false, false, false, false] l := rfl
attribute [go_sem] kt_tree_deep_r
theorem kt_tree_deep_1_r (l : List AV) : keepT i_tree_deep_1_r l = keepT [false, false, false, true, false, false, false, false] l := rfl
attribute [go_sem] kt_tree_deep_1_r
theorem kt_slices_ContainsFunc_sl_api_Tree_api_Tree_r (l : List AV) : keepT i_slices_ContainsFunc_sl_api_Tree_api_Tree_r l = keepT [false, false, false, false, true, false, false, false, false] l := rfl
attribute [go_sem] kt_slices_ContainsFunc_sl_api_Tree_api_Tree_r
theorem kt_slices_IndexFunc_sl_api_Tree_api_Tree_r (l : List AV) : keepT i_slices_IndexFunc_sl_api_Tree_api_Tree_r l = keepT [false, false, false, false, true, false, false, false, false, false, false, false, false, false, false, false, false, false, false] l := rfl
attribute [go_sem] kt_slices_IndexFunc_sl_api_Tree_api_Tree_r
theorem kt_slices_IndexFunc_sl_api_Tree_api_Tree_j1 (l : List AV) : keepT i_slices_IndexFunc_sl_api_Tree_api_Tree_j1 l = keepT [true, true, false, false, false, false, false, true, true, false, false, false, false, false, false, false, false, false, false] l := rfl
attribute [go_sem] kt_slices_IndexFunc_sl_api_Tree_api_Tree_j1
theorem kt_slices_IndexFunc_sl_api_Tree_api_Tree_k0 (l : List AV) : keepT i_slices_IndexFunc_sl_api_Tree_api_Tree_k0 l = keepT [true, true, false, false, false, false, false, true, true, false, false, false, false, false, false, false, false, false, false] l := rfl
attribute [go_sem] kt_slices_IndexFunc_sl_api_Tree_api_Tree_k0
theorem kt_slices_IndexFunc_sl_api_Tree_api_Tree_j0 (l : List AV) : keepT i_slices_IndexFunc_sl_api_Tree_api_Tree_j0 l = keepT [false, false, false, false, false, false, false, false, false, false, false, false, false, false, false, false, false, false, false] l := rfl
attribute [go_sem] kt_slices_IndexFunc_sl_api_Tree_api_Tree_j0
theorem kt_tree_formed_r (l : List AV) : keepT i_tree_formed_r l = keepT [false, false, true, false, false, false, false, false, false, false, false, false, false, false, false, false, false, false, false, false, false, false, false, false, false, false, false, false, false, false, false, false, false, false, false, false, false, false, false, false, false, false, false, false, false, false, false, false, false, false, false, false, false, false, false, false, false, false, false, false, false, false, false, false, false, false, false, false, false, false, false, false, false, false, false, false, false, false, false, false, false, false, false, false, false, false, false] l := rfl
attribute [go_sem] kt_tree_formed_r
theorem kt_tree_formed_j0 (l : List AV) : keepT i_tree_formed_j0 l = keepT [false, true, false, true, false, false, false, false, false, false, false, false, false, false, false, false, false, false, false, false, false, false, false, false, false, false, false, false, false, false, false, false, false, false, false, false, false, false, false, false, false, false, false, false, false, false, false, false, false, false, false, false, false, false, false, false, false, false, false, false, false, false, false, false, false, false, false, false, false, false, false, false, false, false, false, false, false, false, false, false, false, false, false, false, false, false, false] l := rfl
attribute [go_sem] kt_tree_formed_j0
theorem kt_tree_formed_1_r (l : List AV) : keepT i_tree_formed_1_r l = keepT [false, false, true, false, false, false] l := rfl
attribute [go_sem] kt_tree_formed_1_r
theorem kt_tree_full_r (l : List AV) : keepT i_tree_full_r l = keepT [false, false, true, false, false, false, false, false, false, false, false, false, false, false, false] l := rfl
attribute [go_sem] kt_tree_full_r
theorem kt_tree_full_1_r (l : List AV) : keepT i_tree_full_1_r l = keepT [false, false, true, false, false, false] l := rfl
attribute [go_sem] kt_tree_full_1_r
theorem kt_tree_List_r (l : List AV) : keepT i_tree_List_r l = keepT [false, false, true, false, false, false, false, false, false, false, false, false, false] l := rfl
attribute [go_sem] kt_tree_List_r
theorem kt_tree_List_1_r (l : List AV) : keepT i_tree_List_1_r l = keepT [false, false, false, false, false, false, false, false, false, false, false, false, false, false, false, false, false, false, false, false, false, false, false, false, false, false] l := rfl
attribute [go_sem] kt_tree_List_1_r
theorem kt_avl_even_r (l : List AV) : keepT i_avl_even_r l = keepT [false, false, true, true, false, false, false, false, false, false, false, false, false, false, false, false, false, false, false, false, false, false, false, false, false, false, false, false, false, false, false, false, false, false, false, false, false, false, false, false, false, false, false, false, false, false, false, false] l := rfl
attribute [go_sem] kt_avl_even_r
theorem kt_slices_Clone_sl_byte_byte_v1_r (l : List AV) : keepT i_slices_Clone_sl_byte_byte_v1_r l = keepT [false, false, true, false, false, false, false, false, true] l := rfl
attribute [go_sem] kt_slices_Clone_sl_byte_byte_v1_r
theorem kt_ref04_Same_r (l : List AV) : keepT i_ref04_Same_r l = keepT [false, false, false, false, true, false, false, false, false, false, false, false, false, false, false, false, false, false, false, false, false, false, false, false, false, false, false, false, false, false, false, false, false, false, false, false, false, false, false, false, false, false, false, false, false, false, false, false, false, false, false, false, false, false, false, false, false, false, false, false, false, false, false, false, false, false, false, false] l := rfl
attribute [go_sem] kt_ref04_Same_r
theorem kt_ref04_Same_j1 (l : List AV) : keepT i_ref04_Same_j1 l = keepT [false, false, true, true, false, true, false, false, false, false, false, false, false, false, false, false, false, false, false, false, false, false, false, false, false, false, false, false, false, false, false, false, false, false, false, false, false, false, false, false, false, false, false, false, false, false, false, false, false, false, false, false, false, false, false, false, false, false, false, false, false, false, false, false, false, false, false, false] l := rfl
attribute [go_sem] kt_ref04_Same_j1
theorem kt_ref04_Same_k0 (l : List AV) : keepT i_ref04_Same_k0 l = keepT [false, false, true, true, false, true, false, false, false, false, false, false, false, false, false, false, false, false, false, false, false, false, false, false, false, false, false, false, false, false, false, false, false, false, false, false, false, false, false, false, false, false, false, false, false, false, false, false, false, false, false, false, false, false, false, false, false, false, false, false, false, false, false, false, false, false, false, false] l := rfl
attribute [go_sem] kt_ref04_Same_k0
theorem kt_ref04_Same_j0 (l : List AV) : keepT i_ref04_Same_j0 l = keepT [false, false, false, false, false, false, false, false, false, false, false, false, false, false, false, false, false, false, false, false, false, false, false, false, false, false, false, false, false, false, false, false, false, false, false, false, false, false, false, false, false, false, false, false, false, false, false, false, false, false, false, false, false, false, false, false, false, false, false, false, false, false, false, false, false, false, false, false] l := rfl
attribute [go_sem] kt_ref04_Same_j0
theorem kt_ref06_Range_r (l : List AV) : keepT i_ref06_Range_r l = keepT [false, false, false, false, true, false, false, false, false, false, false, false, false, false, false, false, false, false, false, false, false, false, false, false, false, false, false, false, false, false, false, false, false, false, false, false, false, false, false, false] l := rfl
attribute [go_sem] kt_ref06_Range_r
theorem kt_ref06_Range_j1 (l : List AV) : keepT i_ref06_Range_j1 l = keepT [false, false, false, true, false, true, true, true, false, false, false, false, false, false, false, false, false, false, false, false, false, false, false, false, false, false, false, false, false, false, false, false, false, false, false, false, false, false, false, false] l := rfl
attribute [go_sem] kt_ref06_Range_j1
theorem kt_ref06_Range_k0 (l : List AV) : keepT i_ref06_Range_k0 l = keepT [false, false, false, true, false, true, true, true, false, false, false, false, false, false, false, false, false, false, false, false, false, false, false, false, false, false, false, false, false, false, false, false, false, false, false, false, false, false, false, false] l := rfl
attribute [go_sem] kt_ref06_Range_k0
theorem kt_ref06_Range_j0 (l : List AV) : keepT i_ref06_Range_j0 l = keepT [false, false, false, false, false, true, false, false, false, false, false, false, false, false, false, false, false, false, false, false, false, false, false, false, false, false, false, false, false, false, false, false, false, false, false, false, false, false, false, false] l := rfl
attribute [go_sem] kt_ref06_Range_j0
theorem kt_ref04_List_r (l : List AV) : keepT i_ref04_List_r l = keepT [false, false, true, false, false, false, false, false, false, false, false, false, false, false, false, false, false, false, false, false, false, false, false, false, false, false] l := rfl
attribute [go_sem] kt_ref04_List_r
theorem kt_ref06_In_r (l : List AV) : keepT i_ref06_In_r l = keepT [false, false, false, false, true, false, false, false, false, false, false, false, false, false, false, false, false, false, false, false, false, false, false] l := rfl
attribute [go_sem] kt_ref06_In_r
theorem kt_ref06_Same_r (l : List AV) : keepT i_ref06_Same_r l = keepT [false, false, false, false, true, false, false, false, false, false, false, false, false, false, false, false, false, false, false, false, false, false, false, false, false, false, false, false, false, false, false, false, false, false, false, false, false, false, false, false, false, false, false, false, false] l := rfl
attribute [go_sem] kt_ref06_Same_r
theorem kt_ref06_Same_j1 (l : List AV) : keepT i_ref06_Same_j1 l = keepT [true, true, false, false, false, true, false, false, false, false, false, false, false, false, false, false, false, false, false, false, false, false, false, false, false, false, false, false, false, false, false, false, false, false, false, false, false, false, false, false, false, false, false, false, false] l := rfl
attribute [go_sem] kt_ref06_Same_j1
theorem kt_ref06_Same_k0 (l : List AV) : keepT i_ref06_Same_k0 l = keepT [true, true, false, false, false, true, false, false, false, false, false, false, false, false, false, false, false, false, false, false, false, false, false, false, false, false, false, false, false, false, false, false, false, false, false, false, false, false, false, false, false, false, false, false, false] l := rfl
attribute [go_sem] kt_ref06_Same_k0
theorem kt_ref06_Same_j0 (l : List AV) : keepT i_ref06_Same_j0 l = keepT [false, false, false, false, false, false, false, false, false, false, false, false, false, false, false, false, false, false, false, false, false, false, false, false, false, false, false, false, false, false, false, false, false, false, false, false, false, false, false, false, false, false, false, false, false] l := rfl
attribute [go_sem] kt_ref06_Same_j0
noncomputable def L_law06_ScanStays_1 (st : St) : Option (Ex × St) := lp tab G0 3 i_law06_ScanStays_k1 i_law06_ScanStays_b1 st
theorem L_law06_ScanStays_1_eq (st : St) : L_law06_ScanStays_1 st = againL L_law06_ScanStays_1 3 i_law06_ScanStays_k1 (app tab G0 3 [] (ex tab G0 3 i_law06_ScanStays_b1 st)) := lp_eq tab G0 3 i_law06_ScanStays_k1 i_law06_ScanStays_b1 st
theorem L_law06_ScanStays_1_in (K : List Fr) (st : St) : app tab G0 3 K (ex tab G0 3 (.loop i_law06_ScanStays_k1 i_law06_ScanStays_b1) st) = app tab G0 3 K (L_law06_ScanStays_1 (clean 3 i_law06_ScanStays_k1 st)) := rfl
attribute [go_sem] L_law06_ScanStays_1_in
noncomputable def L_law06_ScanStays_0 (st : St) : Option (Ex × St) := lp tab G0 3 i_law06_ScanStays_k0 i_law06_ScanStays_b0 st
theorem L_law06_ScanStays_0_eq (st : St) : L_law06_ScanStays_0 st = againL L_law06_ScanStays_0 3 i_law06_ScanStays_k0 (app tab G0 3 [] (ex tab G0 3 i_law06_ScanStays_b0 st)) := lp_eq tab G0 3 i_law06_ScanStays_k0 i_law06_ScanStays_b0 st
theorem L_law06_ScanStays_0_in (K : List Fr) (st : St) : app tab G0 3 K (ex tab G0 3 (.loop i_law06_ScanStays_k0 i_law06_ScanStays_b0) st) = app tab G0 3 K (L_law06_ScanStays_0 (clean 3 i_law06_ScanStays_k0 st)) := rfl
attribute [go_sem] L_law06_ScanStays_0_in
noncomputable def L_ref05_Grown_0 (st : St) : Option (Ex × St) := lp tab G0 2 i_ref05_Grown_k0 i_ref05_Grown_b0 st
theorem L_ref05_Grown_0_eq (st : St) : L_ref05_Grown_0 st = againL L_ref05_Grown_0 2 i_ref05_Grown_k0 (app tab G0 2 [] (ex tab G0 2 i_ref05_Grown_b0 st)) := lp_eq tab G0 2 i_ref05_Grown_k0 i_ref05_Grown_b0 st
theorem L_ref05_Grown_0_in (K : List Fr) (st : St) : app tab G0 2 K (ex tab G0 2 (.loop i_ref05_Grown_k0 i_ref05_Grown_b0) st) = app tab G0 2 K (L_ref05_Grown_0 (clean 2 i_ref05_Grown_k0 st)) := rfl
attribute [go_sem] L_ref05_Grown_0_in
noncomputable def L_ref04_Copy_0 (st : St) : Option (Ex × St) := lp tab G0 7 i_ref04_Copy_k0 i_ref04_Copy_b0 st
theorem L_ref04_Copy_0_eq (st : St) : L_ref04_Copy_0 st = againL L_ref04_Copy_0 7 i_ref04_Copy_k0 (app tab G0 7 [] (ex tab G0 7 i_ref04_Copy_b0 st)) := lp_eq tab G0 7 i_ref04_Copy_k0 i_ref04_Copy_b0 st
theorem L_ref04_Copy_0_in (K : List Fr) (st : St) : app tab G0 7 K (ex tab G0 7 (.loop i_ref04_Copy_k0 i_ref04_Copy_b0) st) = app tab G0 7 K (L_ref04_Copy_0 (clean 7 i_ref04_Copy_k0 st)) := rfl
attribute [go_sem] L_ref04_Copy_0_in
noncomputable def L_scan_Range_v1_0 (st : St) : Option (Ex × St) := lp tab G0 4 i_scan_Range_v1_k0 i_scan_Range_v1_b0 st
theorem L_scan_Range_v1_0_eq (st : St) : L_scan_Range_v1_0 st = againL L_scan_Range_v1_0 4 i_scan_Range_v1_k0 (app tab G0 4 [] (ex tab G0 4 i_scan_Range_v1_b0 st)) := lp_eq tab G0 4 i_scan_Range_v1_k0 i_scan_Range_v1_b0 st
theorem L_scan_Range_v1_0_in (K : List Fr) (st : St) : app tab G0 4 K (ex tab G0 4 (.loop i_scan_Range_v1_k0 i_scan_Range_v1_b0) st) = app tab G0 4 K (L_scan_Range_v1_0 (clean 4 i_scan_Range_v1_k0 st)) := rfl
attribute [go_sem] L_scan_Range_v1_0_in
noncomputable def L_avl_Is_0 (st : St) : Option (Ex × St) := lp tab G0 1 i_avl_Is_k0 i_avl_Is_b0 st
theorem L_avl_Is_0_eq (st : St) : L_avl_Is_0 st = againL L_avl_Is_0 1 i_avl_Is_k0 (app tab G0 1 [] (ex tab G0 1 i_avl_Is_b0 st)) := lp_eq tab G0 1 i_avl_Is_k0 i_avl_Is_b0 st
theorem L_avl_Is_0_in (K : List Fr) (st : St) : app tab G0 1 K (ex tab G0 1 (.loop i_avl_Is_k0 i_avl_Is_b0) st) = app tab G0 1 K (L_avl_Is_0 (clean 1 i_avl_Is_k0 st)) := rfl
attribute [go_sem] L_avl_Is_0_in
noncomputable def L_slices_IndexFunc_sl_api_Tree_api_Tree_0 (st : St) : Option (Ex × St) := lp tab G0 0 i_slices_IndexFunc_sl_api_Tree_api_Tree_k0 i_slices_IndexFunc_sl_api_Tree_api_Tree_b0 st
theorem L_slices_IndexFunc_sl_api_Tree_api_Tree_0_eq (st : St) : L_slices_IndexFunc_sl_api_Tree_api_Tree_0 st = againL L_slices_IndexFunc_sl_api_Tree_api_Tree_0 0 i_slices_IndexFunc_sl_api_Tree_api_Tree_k0 (app tab G0 0 [] (ex tab G0 0 i_slices_IndexFunc_sl_api_Tree_api_Tree_b0 st)) := lp_eq tab G0 0 i_slices_IndexFunc_sl_api_Tree_api_Tree_k0 i_slices_IndexFunc_sl_api_Tree_api_Tree_b0 st
theorem L_slices_IndexFunc_sl_api_Tree_api_Tree_0_in (K : List Fr) (st : St) : app tab G0 0 K (ex tab G0 0 (.loop i_slices_IndexFunc_sl_api_Tree_api_Tree_k0 i_slices_IndexFunc_sl_api_Tree_api_Tree_b0) st) = app tab G0 0 K (L_slices_IndexFunc_sl_api_Tree_api_Tree_0 (clean 0 i_slices_IndexFunc_sl_api_Tree_api_Tree_k0 st)) := rfl
attribute [go_sem] L_slices_IndexFunc_sl_api_Tree_api_Tree_0_in
noncomputable def L_ref04_Same_0 (st : St) : Option (Ex × St) := lp tab G0 2 i_ref04_Same_k0 i_ref04_Same_b0 st
theorem L_ref04_Same_0_eq (st : St) : L_ref04_Same_0 st = againL L_ref04_Same_0 2 i_ref04_Same_k0 (app tab G0 2 [] (ex tab G0 2 i_ref04_Same_b0 st)) := lp_eq tab G0 2 i_ref04_Same_k0 i_ref04_Same_b0 st
theorem L_ref04_Same_0_in (K : List Fr) (st : St) : app tab G0 2 K (ex tab G0 2 (.loop i_ref04_Same_k0 i_ref04_Same_b0) st) = app tab G0 2 K (L_ref04_Same_0 (clean 2 i_ref04_Same_k0 st)) := rfl
attribute [go_sem] L_ref04_Same_0_in
noncomputable def L_ref06_Range_0 (st : St) : Option (Ex × St) := lp tab G0 3 i_ref06_Range_k0 i_ref06_Range_b0 st
theorem L_ref06_Range_0_eq (st : St) : L_ref06_Range_0 st = againL L_ref06_Range_0 3 i_ref06_Range_k0 (app tab G0 3 [] (ex tab G0 3 i_ref06_Range_b0 st)) := lp_eq tab G0 3 i_ref06_Range_k0 i_ref06_Range_b0 st
theorem L_ref06_Range_0_in (K : List Fr) (st : St) : app tab G0 3 K (ex tab G0 3 (.loop i_ref06_Range_k0 i_ref06_Range_b0) st) = app tab G0 3 K (L_ref06_Range_0 (clean 3 i_ref06_Range_k0 st)) := rfl
attribute [go_sem] L_ref06_Range_0_in
noncomputable def L_ref06_Same_0 (st : St) : Option (Ex × St) := lp tab G0 0 i_ref06_Same_k0 i_ref06_Same_b0 st
theorem L_ref06_Same_0_eq (st : St) : L_ref06_Same_0 st = againL L_ref06_Same_0 0 i_ref06_Same_k0 (app tab G0 0 [] (ex tab G0 0 i_ref06_Same_b0 st)) := lp_eq tab G0 0 i_ref06_Same_k0 i_ref06_Same_b0 st
theorem L_ref06_Same_0_in (K : List Fr) (st : St) : app tab G0 0 K (ex tab G0 0 (.loop i_ref06_Same_k0 i_ref06_Same_b0) st) = app tab G0 0 K (L_ref06_Same_0 (clean 0 i_ref06_Same_k0 st)) := rfl
attribute [go_sem] L_ref06_Same_0_in
end Go.Proofs.Ytfihodpdjpcpfaa
