/- The IR of the seat's functions, printed by a program of this session. -/
import Derived.Test.YtebiajdkgpcidaaEvE
set_option linter.unusedVariables false
namespace Go.Proofs.Ytebiajdkgpcidaa
open Go.Ev

abbrev ty_uint8 : Nat := 5
abbrev ty_api_Tree : Nat := 33
abbrev ty_api_Code : Nat := 41
abbrev ty_api_Pair : Nat := 49
abbrev n_law06_ScanRanges : Nat := 6
abbrev n_law05_AvlIs : Nat := 9
abbrev n_law05_AvlGets : Nat := 10
abbrev n_law05_AvlPuts : Nat := 11
abbrev n_law10_CodeWrites : Nat := 12
abbrev n_law10_CodeReads : Nat := 13
abbrev n_law10_CodeBack : Nat := 14
abbrev n_law05_AvlDeletes : Nat := 16
abbrev n_law05_AvlHolds : Nat := 17
abbrev n_law06_up : Nat := 18
abbrev n_scan_In : Nat := 20
abbrev n_ref06_In : Nat := 21
abbrev n_ref04_Light : Nat := 24
abbrev n_scan_Range : Nat := 25
abbrev n_ref05_Is : Nat := 26
abbrev n_ref06_Same : Nat := 27
abbrev n_ref06_Range : Nat := 28
abbrev n_ref04_Same : Nat := 31
abbrev n_ref05_Get : Nat := 32
abbrev n_law05_up : Nat := 33
abbrev n_law05_small : Nat := 34
abbrev n_avl_Is : Nat := 35
abbrev n_avl_Get : Nat := 36
abbrev n_law05_asked : Nat := 37
abbrev n_law00_Code : Nat := 38
abbrev n_avl_Put : Nat := 39
abbrev n_ref05_Put : Nat := 40
abbrev n_law10_up : Nat := 41
abbrev n_law10_small : Nat := 42
abbrev n_code_Write : Nat := 43
abbrev n_ref10_Write : Nat := 44
abbrev n_code_Read : Nat := 45
abbrev n_ref10_Read : Nat := 46
abbrev n_avl_Delete : Nat := 47
abbrev n_ref05_Delete : Nat := 48
abbrev n_ref04_List : Nat := 49
abbrev n_slices_Clone_sl_byte_byte : Nat := 50
abbrev n_bytes_Compare : Nat := 52
abbrev n_tree_List : Nat := 53
abbrev n_ref04_Check : Nat := 54
abbrev n_ref04_Full : Nat := 55
abbrev n_ref04_Depth : Nat := 56
abbrev n_tree_Full : Nat := 57
abbrev n_avl_even : Nat := 58
abbrev n_avl_asked : Nat := 59
abbrev n_avl_put : Nat := 60
abbrev n_ref05_Node : Nat := 61
abbrev n_ref05_level : Nat := 62
abbrev n_tree_Check : Nat := 63
abbrev n_code_long : Nat := 64
abbrev n_code_write : Nat := 65
abbrev n_ref10_long : Nat := 66
abbrev n_ref10_bytes : Nat := 67
abbrev n_coder_NewReader : Nat := 68
abbrev n_code_Read_1 : Nat := 69
abbrev n_coder_Reader_Byte : Nat := 70
abbrev n_coder_Reader_Bytes : Nat := 71
abbrev n_coder_Reader_End : Nat := 72
abbrev n_ref10_read : Nat := 73
abbrev n_ref02_Reader_End : Nat := 74
abbrev n_avl_take : Nat := 75
abbrev n_internal_bytealg_Compare : Nat := 76
abbrev n_tree_List_1 : Nat := 77
abbrev n_ref04_Deep : Nat := 78
abbrev n_ref04_Formed : Nat := 79
abbrev n_tree_full : Nat := 80
abbrev n_avl_node : Nat := 81
abbrev n_avl_leveled : Nat := 82
abbrev n_ref05_tilt : Nat := 83
abbrev n_ref05_left : Nat := 84
abbrev n_ref05_right : Nat := 85
abbrev n_tree_deep : Nat := 86
abbrev n_tree_formed : Nat := 87
abbrev n_coder_Bytes : Nat := 88
abbrev n_ref02_Bytes : Nat := 89
abbrev n_coder_Reader_take : Nat := 90
abbrev n_coder_Reader_Number : Nat := 91
abbrev n_ref02_Reader_Byte : Nat := 92
abbrev n_ref02_Reader_Bytes : Nat := 93
abbrev n_slices_ContainsFunc_sl_api_Tree_api_Tree : Nat := 94
abbrev n_tree_full_1 : Nat := 95
abbrev n_avl_depth : Nat := 96
abbrev n_avl_left : Nat := 97
abbrev n_avl_right : Nat := 98
abbrev n_tree_deep_1 : Nat := 99
abbrev n_tree_formed_1 : Nat := 100
abbrev n_coder_Number : Nat := 101
abbrev n_ref02_Number : Nat := 102
abbrev n_ref02_Reader_Number : Nat := 103
abbrev n_slices_IndexFunc_sl_api_Tree_api_Tree : Nat := 104
def i_law06_ScanRanges_r : List Bool := [false, false, false, false, true, false, false, false, false, false, false, false, false, false, false, false, false, false, false, false, false, false, false, false, false, false, false, false, false, false, false, false, false, false, false, false, false, false, false, false, false, false, false, false, false, false, false]
/-- heartwood/heartwoodlaw06.ScanRanges -/
def i_law06_ScanRanges : Ev.Fn := ⟨2, 47, 2,
  (.seq
   (.reg [] [
     ⟨(some 2), .box 0 5 (.t 0), none, []⟩,
     ⟨(some 3), .box 1 3 (.t 1), none, []⟩,
     ⟨(some 4), .mv (.k (.bool false)), none, []⟩])
   (.seq
    (.reg [] [
      ⟨(some 9), .qcall n_law06_up [] [], none, []⟩,
      ⟨(some 5), .mv (.t 9), none, []⟩])
    (.seq
     (.seq
      (.reg [] [
        ⟨(some 10), .load true 5 (.t 2), none, []⟩,
        ⟨(some 11), .qcall n_ref04_Light [(.t 10), (.k (.int .i64 300)), (.k (.int .i64 100))] [], none, []⟩,
        ⟨(some 12), .bin .plain .lss (.t 11) (.k (.int .i64 0)), none, []⟩])
      (.cond (.t 12)
       (.seq
        (.reg [] [
          ⟨(some 13), .mv (.t 5), none, []⟩,
          ⟨(some 4), .mv (.t 13), none, []⟩])
        (.ret i_law06_ScanRanges_r))
       .skip))
     (.seq
      (.reg [] [
        ⟨(some 15), .load true 5 (.t 2), none, []⟩,
        ⟨(some 16), .load true 3 (.t 3), none, []⟩,
        ⟨(some 17), .qcall n_scan_Range [(.t 15), (.t 16)] [], none, []⟩,
        ⟨(some 14), .mv (.t 17), none, []⟩,
        ⟨(some 18), .ext 0 (.t 14), none, []⟩,
        ⟨(some 19), .ext 1 (.t 14), none, []⟩,
        ⟨(some 6), .cn (.t 18), none, []⟩,
        ⟨(some 7), .mv (.t 19), none, []⟩])
      (.seq
       (.reg [] [
         ⟨(some 20), .load true 5 (.t 2), none, []⟩,
         ⟨(some 21), .qcall n_ref05_Is [(.t 20)] [], none, []⟩,
         ⟨(some 8), .mv (.t 21), none, []⟩])
       (.seq
        (.seq
         (.reg [] [
           ⟨(some 22), .mv (.t 8), none, []⟩,
           ⟨(some 23), .un .not (.t 22), none, []⟩])
         (.cond (.t 23)
          (.seq
           (.reg [] [
             ⟨(some 24), .mv (.t 5), none, []⟩,
             ⟨(some 25), .mv (.t 24), none, []⟩,
             ⟨(some 26), .mv (.t 7), (some (25, true)), []⟩,
             ⟨(some 27), .mki ty_api_Code (.k (.int .i64 3)), (some (25, true)), []⟩,
             ⟨(some 28), .bin (.iface ty_api_Code false) .eql (.t 26) (.t 27), (some (25, true)), []⟩,
             ⟨(some 29), .pick (.t 25) (.t 28) (.k (.bool false)), none, []⟩,
             ⟨(some 30), .mv (.t 29), none, []⟩,
             ⟨(some 31), .cn (.t 6), (some (30, true)), []⟩,
             ⟨(some 32), .len false (.t 31), (some (30, true)), []⟩,
             ⟨(some 33), .bin .plain .eql (.t 32) (.k (.int .i64 0)), (some (30, true)), []⟩,
             ⟨(some 34), .pick (.t 30) (.t 33) (.k (.bool false)), none, []⟩,
             ⟨(some 4), .mv (.t 34), none, []⟩])
           (.ret i_law06_ScanRanges_r))
          .skip))
        (.seq
         (.reg [] [
           ⟨(some 35), .mv (.t 5), none, []⟩,
           ⟨(some 36), .mv (.t 35), none, []⟩,
           ⟨(some 37), .mv (.t 7), (some (36, true)), []⟩,
           ⟨(some 38), .bin (.iface ty_api_Code true) .eql (.t 37) (.k .nilIface), (some (36, true)), []⟩,
           ⟨(some 39), .pick (.t 36) (.t 38) (.k (.bool false)), none, []⟩,
           ⟨(some 40), .mv (.t 39), none, []⟩,
           ⟨(some 41), .cn (.t 6), (some (40, true)), []⟩,
           ⟨(some 42), .load true 5 (.t 2), (some (40, true)), []⟩,
           ⟨(some 43), .load true 3 (.t 3), (some (40, true)), []⟩,
           ⟨(some 44), .qcall n_ref06_Range [(.t 42), (.t 43)] [], (some (40, true)), []⟩,
           ⟨(some 45), .qcall n_ref06_Same [(.t 41), (.t 44)] [], (some (40, true)), []⟩,
           ⟨(some 46), .pick (.t 40) (.t 45) (.k (.bool false)), none, []⟩,
           ⟨(some 4), .mv (.t 46), none, []⟩])
         (.ret i_law06_ScanRanges_r)))))))),
  [.tmp 4], [], false, []⟩

def i_law06_up_r : List Bool := [true, false, false, false, false, false, false, false, false, false, false, false, false, false, false, false, false, false, false, false, false, false]
/-- heartwood/heartwoodlaw06.up -/
def i_law06_up : Ev.Fn := ⟨0, 22, 5,
  (.seq
   (.reg [] [
     ⟨(some 0), .mv (.k (.bool false)), none, []⟩])
   (.seq
    (.reg [] [
      ⟨(some 3), .lit 0 ty_uint8 1 1 [(.int .u8 0)] [(0, (.k (.int .u8 98)))], none, []⟩,
      ⟨(some 4), .markb (.t 3), none, []⟩,
      ⟨(some 5), .build [(.slice none 0 0), (.slice none 0 0), (.bool false)] [(0, 1, (.t 4)), (2, 1, (.k (.bool true)))], none, []⟩,
      ⟨(some 6), .lit 1 ty_uint8 1 1 [(.int .u8 0)] [(0, (.k (.int .u8 98)))], none, []⟩,
      ⟨(some 7), .markb (.t 6), none, []⟩,
      ⟨(some 8), .qcall n_scan_In [(.t 5), (.t 7)] [], none, []⟩,
      ⟨(some 1), .mv (.t 8), none, []⟩])
    (.seq
     (.reg [] [
       ⟨(some 9), .lit 2 ty_uint8 1 1 [(.int .u8 0)] [(0, (.k (.int .u8 98)))], none, []⟩,
       ⟨(some 10), .markb (.t 9), none, []⟩,
       ⟨(some 11), .lit 3 ty_uint8 1 1 [(.int .u8 0)] [(0, (.k (.int .u8 98)))], none, []⟩,
       ⟨(some 12), .markb (.t 11), none, []⟩,
       ⟨(some 13), .build [(.slice none 0 0), (.slice none 0 0), (.bool false)] [(0, 1, (.t 10)), (1, 1, (.t 12))], none, []⟩,
       ⟨(some 14), .lit 4 ty_uint8 1 1 [(.int .u8 0)] [(0, (.k (.int .u8 98)))], none, []⟩,
       ⟨(some 15), .markb (.t 14), none, []⟩,
       ⟨(some 16), .qcall n_scan_In [(.t 13), (.t 15)] [], none, []⟩,
       ⟨(some 2), .mv (.t 16), none, []⟩])
     (.seq
      (.reg [] [
        ⟨(some 17), .mv (.t 1), none, []⟩,
        ⟨(some 18), .mv (.t 17), none, []⟩,
        ⟨(some 19), .mv (.t 2), (some (18, true)), []⟩,
        ⟨(some 20), .un .not (.t 19), (some (18, true)), []⟩,
        ⟨(some 21), .pick (.t 18) (.t 20) (.k (.bool false)), none, []⟩,
        ⟨(some 0), .mv (.t 21), none, []⟩])
      (.ret i_law06_up_r))))),
  [.tmp 0], [], false, []⟩

def i_scan_In_r : List Bool := [false, false, false, false, true, false, false, false, false, false, false, false, false, false, false, false, false, false, false, false, false]
/-- heartwood/scan.In -/
def i_scan_In : Ev.Fn := ⟨2, 21, 1,
  (.seq
   (.reg [] [
     ⟨(some 2), .box 0 3 (.t 0), none, []⟩,
     ⟨(some 4), .mv (.k (.bool false)), none, []⟩])
   (.seq
    (.reg [] [
      ⟨(some 5), .cn (.t 1), none, []⟩,
      ⟨(some 6), .fa 0 (.t 2), none, []⟩,
      ⟨(some 7), .load false 1 (.t 6), none, []⟩,
      ⟨(some 8), .qcall n_bytes_Compare [(.t 5), (.t 7)] [], none, []⟩,
      ⟨(some 9), .bin .plain .geq (.t 8) (.k (.int .i64 0)), none, []⟩,
      ⟨(some 10), .mv (.t 9), none, []⟩,
      ⟨(some 11), .fa 2 (.t 2), (some (10, true)), []⟩,
      ⟨(some 12), .load false 1 (.t 11), (some (10, true)), []⟩,
      ⟨(some 13), .mv (.t 12), (some (10, true)), []⟩,
      ⟨(some 14), .cn (.t 1), (some (13, false)), []⟩,
      ⟨(some 15), .fa 1 (.t 2), (some (13, false)), []⟩,
      ⟨(some 16), .load false 1 (.t 15), (some (13, false)), []⟩,
      ⟨(some 17), .qcall n_bytes_Compare [(.t 14), (.t 16)] [], (some (13, false)), []⟩,
      ⟨(some 18), .bin .plain .lss (.t 17) (.k (.int .i64 0)), (some (13, false)), []⟩,
      ⟨(some 19), .pick (.t 13) (.k (.bool true)) (.t 18), (some (10, true)), []⟩,
      ⟨(some 20), .pick (.t 10) (.t 19) (.k (.bool false)), none, []⟩,
      ⟨(some 4), .mv (.t 20), none, []⟩])
    (.ret i_scan_In_r))),
  [.tmp 4], [], false, []⟩

def i_bytes_Compare_r : List Bool := [false, false, false, false, true, false, false, false]
/-- bytes.Compare -/
def i_bytes_Compare : Ev.Fn := ⟨2, 8, 0,
  (.seq
   (.reg [] [
     ⟨(some 4), .mv (.k (.int .i64 0)), none, []⟩])
   (.seq
    (.reg [] [
      ⟨(some 5), .cn (.t 0), none, []⟩,
      ⟨(some 6), .cn (.t 1), none, []⟩,
      ⟨(some 7), .cmpb (.t 5) (.t 6), none, []⟩,
      ⟨(some 4), .mv (.t 7), none, []⟩])
    (.ret i_bytes_Compare_r))),
  [.tmp 4], [], false, []⟩

def i_ref04_Light_r : List Bool := [false, false, false, false, false, false, true, false, false, false, false, false, false, false, false, false, false, false, false, false, false, false, false, false, false, false, false, false, false, false, false, false, false, false, false, false, false, false, false, false, false, false, false, false, false, false, false, false, false, false, false, false, false, false, false, false, false, false, false, false]
def i_ref04_Light_j1 : List Bool := [false, true, true, true, false, false, false, true, false, false, false, false, false, false, false, false, false, false, false, false, false, false, false, false, false, false, false, false, false, false, false, false, false, false, false, false, false, false, false, false, false, false, false, false, false, false, false, false, false, false, false, false, false, false, false, false, false, false, false, false]
def i_ref04_Light_k0 : List Bool := [false, true, true, true, false, false, false, true, false, false, false, false, false, false, false, false, false, false, false, false, false, false, false, false, false, false, false, false, false, false, false, false, false, false, false, false, false, false, false, false, false, false, false, false, false, false, false, false, false, false, false, false, false, false, false, false, false, false, false, false]
def i_ref04_Light_j0 : List Bool := [false, true, false, false, false, false, false, false, false, false, false, false, false, false, false, false, false, false, false, false, false, false, false, false, false, false, false, false, false, false, false, false, false, false, false, false, false, false, false, false, false, false, false, false, false, false, false, false, false, false, false, false, false, false, false, false, false, false, false, false]
abbrev s_ref04_Light_R (t6 : AV) (h : Heap) : St := ⟨[.undef, .undef, .undef, .undef, .undef, .undef, t6, .undef, .undef, .undef, .undef, .undef, .undef, .undef, .undef, .undef, .undef, .undef, .undef, .undef, .undef, .undef, .undef, .undef, .undef, .undef, .undef, .undef, .undef, .undef, .undef, .undef, .undef, .undef, .undef, .undef, .undef, .undef, .undef, .undef, .undef, .undef, .undef, .undef, .undef, .undef, .undef, .undef, .undef, .undef, .undef, .undef, .undef, .undef, .undef, .undef, .undef, .undef, .undef, .undef], h⟩
abbrev s_ref04_Light_K0 (t1 t2 t3 t7 : AV) (h : Heap) : St := ⟨[.undef, t1, t2, t3, .undef, .undef, .undef, t7, .undef, .undef, .undef, .undef, .undef, .undef, .undef, .undef, .undef, .undef, .undef, .undef, .undef, .undef, .undef, .undef, .undef, .undef, .undef, .undef, .undef, .undef, .undef, .undef, .undef, .undef, .undef, .undef, .undef, .undef, .undef, .undef, .undef, .undef, .undef, .undef, .undef, .undef, .undef, .undef, .undef, .undef, .undef, .undef, .undef, .undef, .undef, .undef, .undef, .undef, .undef, .undef], h⟩
def i_ref04_Light_b0 : IR :=
  (.seq
   (.seq
    (.reg [] [
      ⟨(some 41), .mv (.t 7), none, []⟩,
      ⟨(some 42), .fa 4 (.t 3), none, []⟩,
      ⟨(some 43), .load false 1 (.t 42), none, []⟩,
      ⟨(some 44), .len false (.t 43), none, []⟩,
      ⟨(some 45), .bin .plain .lss (.t 41) (.t 44), none, []⟩])
    (.cond (.t 45)
     .skip
     (.exit 0 i_ref04_Light_j0)))
   (.seq
    (.block 1 i_ref04_Light_j1
     (.seq
      (.reg [] [
        ⟨(some 48), .fa 4 (.t 3), none, []⟩,
        ⟨(some 49), .load false 1 (.t 48), none, []⟩,
        ⟨(some 50), .mv (.t 7), none, []⟩,
        ⟨(some 51), .ia 5 (.t 49) (.t 50), none, []⟩,
        ⟨(some 52), .load true 5 (.t 51), none, []⟩,
        ⟨(some 53), .mv (.t 1), none, []⟩,
        ⟨(some 54), .mv (.t 2), none, []⟩,
        ⟨(some 55), .bin .plain .sub (.t 54) (.k (.int .i64 1)), none, []⟩,
        ⟨(some 56), .qcall n_ref04_Light [(.t 52), (.t 53), (.t 55)] [], none, []⟩,
        ⟨(some 1), .mv (.t 56), none, []⟩])
      (.seq
       (.reg [] [
         ⟨(some 57), .mv (.t 1), none, []⟩,
         ⟨(some 58), .bin .plain .lss (.t 57) (.k (.int .i64 0)), none, []⟩])
       (.cond (.t 58)
        (.seq
         (.reg [] [
           ⟨(some 6), .mv (.k (.int .i64 (-1))), none, []⟩])
         (.ret i_ref04_Light_r))
        .skip))))
    (.reg [] [
      ⟨(some 46), .mv (.t 7), none, []⟩,
      ⟨(some 47), .bin .plain .add (.t 46) (.k (.int .i64 1)), none, []⟩,
      ⟨(some 7), .mv (.t 47), none, []⟩])))

abbrev s_ref04_Light_J0 (t1 : AV) (h : Heap) : St := ⟨[.undef, t1, .undef, .undef, .undef, .undef, .undef, .undef, .undef, .undef, .undef, .undef, .undef, .undef, .undef, .undef, .undef, .undef, .undef, .undef, .undef, .undef, .undef, .undef, .undef, .undef, .undef, .undef, .undef, .undef, .undef, .undef, .undef, .undef, .undef, .undef, .undef, .undef, .undef, .undef, .undef, .undef, .undef, .undef, .undef, .undef, .undef, .undef, .undef, .undef, .undef, .undef, .undef, .undef, .undef, .undef, .undef, .undef, .undef, .undef], h⟩
/-- heartwood/heartwoodref04.Light -/
def i_ref04_Light : Ev.Fn := ⟨3, 60, 1,
  (.seq
   (.reg [] [
     ⟨(some 3), .box 0 5 (.t 0), none, []⟩,
     ⟨(some 6), .mv (.k (.int .i64 0)), none, []⟩])
   (.seq
    (.reg [] [
      ⟨(some 8), .mv (.t 1), none, []⟩,
      ⟨(some 9), .bin .plain .sub (.t 8) (.k (.int .i64 1)), none, []⟩,
      ⟨(some 1), .mv (.t 9), none, []⟩])
    (.seq
     (.seq
      (.reg [] [
        ⟨(some 10), .mv (.t 2), none, []⟩,
        ⟨(some 11), .bin .plain .eql (.t 10) (.k (.int .i64 0)), none, []⟩,
        ⟨(some 12), .mv (.t 11), none, []⟩,
        ⟨(some 13), .mv (.t 1), (some (12, false)), []⟩,
        ⟨(some 14), .bin .plain .lss (.t 13) (.k (.int .i64 0)), (some (12, false)), []⟩,
        ⟨(some 15), .pick (.t 12) (.k (.bool true)) (.t 14), none, []⟩,
        ⟨(some 16), .mv (.t 15), none, []⟩,
        ⟨(some 17), .fa 4 (.t 3), (some (16, false)), []⟩,
        ⟨(some 18), .load false 1 (.t 17), (some (16, false)), []⟩,
        ⟨(some 19), .len false (.t 18), (some (16, false)), []⟩,
        ⟨(some 20), .mv (.t 1), (some (16, false)), []⟩,
        ⟨(some 21), .bin .plain .gtr (.t 19) (.t 20), (some (16, false)), []⟩,
        ⟨(some 22), .pick (.t 16) (.k (.bool true)) (.t 21), none, []⟩,
        ⟨(some 23), .mv (.t 22), none, []⟩,
        ⟨(some 24), .fa 1 (.t 3), (some (23, false)), []⟩,
        ⟨(some 25), .load false 1 (.t 24), (some (23, false)), []⟩,
        ⟨(some 26), .len false (.t 25), (some (23, false)), []⟩,
        ⟨(some 27), .bin .plain .gtr (.t 26) (.k (.int .i64 3000)), (some (23, false)), []⟩,
        ⟨(some 28), .pick (.t 23) (.k (.bool true)) (.t 27), none, []⟩,
        ⟨(some 29), .mv (.t 28), none, []⟩,
        ⟨(some 30), .fa 2 (.t 3), (some (29, false)), []⟩,
        ⟨(some 31), .load false 1 (.t 30), (some (29, false)), []⟩,
        ⟨(some 32), .len false (.t 31), (some (29, false)), []⟩,
        ⟨(some 33), .bin .plain .gtr (.t 32) (.k (.int .i64 3000)), (some (29, false)), []⟩,
        ⟨(some 34), .pick (.t 29) (.k (.bool true)) (.t 33), none, []⟩,
        ⟨(some 35), .mv (.t 34), none, []⟩,
        ⟨(some 36), .fa 3 (.t 3), (some (35, false)), []⟩,
        ⟨(some 37), .load false 1 (.t 36), (some (35, false)), []⟩,
        ⟨(some 38), .len false (.t 37), (some (35, false)), []⟩,
        ⟨(some 39), .bin .plain .gtr (.t 38) (.k (.int .i64 3000)), (some (35, false)), []⟩,
        ⟨(some 40), .pick (.t 35) (.k (.bool true)) (.t 39), none, []⟩])
      (.cond (.t 40)
       (.seq
        (.reg [] [
          ⟨(some 6), .mv (.k (.int .i64 (-1))), none, []⟩])
        (.ret i_ref04_Light_r))
       .skip))
     (.seq
      (.seq
       (.reg [] [
         ⟨(some 7), .mv (.k (.int .i64 0)), none, []⟩])
       (.block 0 i_ref04_Light_j0
        (.loop i_ref04_Light_k0 i_ref04_Light_b0)))
      (.seq
       (.reg [] [
         ⟨(some 59), .mv (.t 1), none, []⟩,
         ⟨(some 6), .mv (.t 59), none, []⟩])
       (.ret i_ref04_Light_r)))))),
  [.tmp 6], [], false, []⟩

def i_scan_Range_r : List Bool := [false, false, false, false, true, true, false, false, false, false, false, false, false, false, false, false, false, false, false, false, false, false, false, false, false, false, false, false, false, false, false, false, false, false, false, false]
def i_scan_Range_j1 : List Bool := [false, false, false, true, false, false, true, false, false, false, false, false, false, false, true, true, true, false, false, false, false, false, false, false, false, false, false, false, false, false, false, false, false, false, false, false]
def i_scan_Range_k0 : List Bool := [false, false, false, true, false, false, true, false, false, false, false, false, false, false, true, true, true, false, false, false, false, false, false, false, false, false, false, false, false, false, false, false, false, false, false, false]
def i_scan_Range_j0 : List Bool := [false, false, false, false, false, false, true, false, false, false, false, false, false, false, false, false, false, false, false, false, false, false, false, false, false, false, false, false, false, false, false, false, false, false, false, false]
abbrev s_scan_Range_R (t4 t5 : AV) (h : Heap) : St := ⟨[.undef, .undef, .undef, .undef, t4, t5, .undef, .undef, .undef, .undef, .undef, .undef, .undef, .undef, .undef, .undef, .undef, .undef, .undef, .undef, .undef, .undef, .undef, .undef, .undef, .undef, .undef, .undef, .undef, .undef, .undef, .undef, .undef, .undef, .undef, .undef], h⟩
abbrev s_scan_Range_K0 (t3 t6 t14 t15 t16 : AV) (h : Heap) : St := ⟨[.undef, .undef, .undef, t3, .undef, .undef, t6, .undef, .undef, .undef, .undef, .undef, .undef, .undef, t14, t15, t16, .undef, .undef, .undef, .undef, .undef, .undef, .undef, .undef, .undef, .undef, .undef, .undef, .undef, .undef, .undef, .undef, .undef, .undef, .undef], h⟩
def i_scan_Range_b0 : IR :=
  (.seq
   (.reg [] [
     ⟨(some 17), .bin .plain .lss (.t 16) (.t 15), none, []⟩])
   (.seq
    (.cond (.t 17)
     .skip
     (.exit 0 i_scan_Range_j0))
    (.seq
     (.block 1 i_scan_Range_j1
      (.seq
       (.reg [] [
         ⟨(some 18), .ia 5 (.t 14) (.t 16), none, []⟩,
         ⟨(some 19), .load true 5 (.t 18), none, []⟩,
         ⟨(some 8), .new 2 [(.int .i64 0), (.slice none 0 0), (.slice none 0 0), (.slice none 0 0), (.slice none 0 0)], none, []⟩,
         ⟨none, .store 5 (.t 8) (.t 19), none, []⟩])
       (.seq
        (.reg [] [
          ⟨(some 20), .load true 3 (.t 3), none, []⟩,
          ⟨(some 21), .fa 1 (.t 8), none, []⟩,
          ⟨(some 22), .load false 1 (.t 21), none, []⟩,
          ⟨(some 23), .qcall n_scan_In [(.t 20), (.t 22)] [], none, []⟩])
        (.cond (.t 23)
         (.reg [] [
           ⟨(some 24), .mv (.t 6), none, []⟩,
           ⟨(some 25), .fa 1 (.t 8), none, []⟩,
           ⟨(some 26), .load false 1 (.t 25), none, []⟩,
           ⟨(some 27), .qcall n_slices_Clone_sl_byte_byte [(.t 26)] [], none, []⟩,
           ⟨(some 28), .fa 2 (.t 8), none, []⟩,
           ⟨(some 29), .load false 1 (.t 28), none, []⟩,
           ⟨(some 30), .qcall n_slices_Clone_sl_byte_byte [(.t 29)] [], none, []⟩,
           ⟨(some 31), .build [(.slice none 0 0), (.slice none 0 0)] [(0, 1, (.t 27)), (1, 1, (.t 30))], none, []⟩,
           ⟨(some 32), .litd 2 1 [(.slice none 0 0), (.slice none 0 0)] [(0, (.t 31))], none, []⟩,
           ⟨(some 33), .app 3 ty_api_Pair 2 48 (.t 24) (.t 32), none, []⟩,
           ⟨(some 6), .mv (.t 33), none, []⟩])
         .skip))))
     (.reg [] [
       ⟨(some 34), .bin .plain .add (.t 16) (.k (.int .i64 1)), none, []⟩,
       ⟨(some 16), .mv (.t 34), none, []⟩]))))

abbrev s_scan_Range_J0 (t6 : AV) (h : Heap) : St := ⟨[.undef, .undef, .undef, .undef, .undef, .undef, t6, .undef, .undef, .undef, .undef, .undef, .undef, .undef, .undef, .undef, .undef, .undef, .undef, .undef, .undef, .undef, .undef, .undef, .undef, .undef, .undef, .undef, .undef, .undef, .undef, .undef, .undef, .undef, .undef, .undef], h⟩
/-- heartwood/scan.Range -/
def i_scan_Range : Ev.Fn := ⟨2, 36, 4,
  (.seq
   (.reg [] [
     ⟨(some 2), .box 0 5 (.t 0), none, []⟩,
     ⟨(some 3), .box 1 3 (.t 1), none, []⟩,
     ⟨(some 4), .cn (.k (.slice none 0 0)), none, []⟩,
     ⟨(some 5), .mv (.k .nilIface), none, []⟩])
   (.seq
    (.seq
     (.reg [] [
       ⟨(some 9), .load true 5 (.t 2), none, []⟩,
       ⟨(some 10), .qcall n_avl_Is [(.t 9)] [], none, []⟩,
       ⟨(some 11), .un .not (.t 10), none, []⟩])
     (.cond (.t 11)
      (.seq
       (.reg [] [
         ⟨(some 12), .mki ty_api_Code (.k (.int .i64 3)), none, []⟩,
         ⟨(some 4), .cn (.k (.slice none 0 0)), none, []⟩,
         ⟨(some 5), .mv (.t 12), none, []⟩])
       (.ret i_scan_Range_r))
      .skip))
    (.seq
     (.reg [] [
       ⟨(some 6), .mv (.k (.slice none 0 0)), none, []⟩])
     (.seq
      (.seq
       (.reg [] [
         ⟨(some 13), .load true 5 (.t 2), none, []⟩,
         ⟨(some 14), .qcall n_tree_List [(.t 13)] [], none, []⟩,
         ⟨(some 15), .len false (.t 14), none, []⟩,
         ⟨(some 16), .mv (.k (.int .i64 0)), none, []⟩])
       (.block 0 i_scan_Range_j0
        (.loop i_scan_Range_k0 i_scan_Range_b0)))
      (.seq
       (.reg [] [
         ⟨(some 35), .cn (.t 6), none, [6]⟩,
         ⟨(some 4), .cn (.t 35), none, [35]⟩,
         ⟨(some 5), .mv (.k .nilIface), none, []⟩])
       (.ret i_scan_Range_r)))))),
  [.tmp 4, .tmp 5], [], false, []⟩

def i_avl_Is_r : List Bool := [false, false, true, false, false, false, false, false, false, false, false, false, false, false, false, false, false, false, false, false, false, false, false, false, false, false, false, false, false, false, false, false, false, false, false, false, false]
def i_avl_Is_j1 : List Bool := [false, true, false, true, true, false, false, false, false, false, false, false, false, false, false, false, false, false, false, false, false, false, false, false, false, false, false, false, false, false, false, false, false, false, false, false, false]
def i_avl_Is_k0 : List Bool := [false, true, false, true, true, false, false, false, false, false, false, false, false, false, false, false, false, false, false, false, false, false, false, false, false, false, false, false, false, false, false, false, false, false, false, false, false]
def i_avl_Is_j0 : List Bool := [false, true, false, false, false, false, false, false, false, false, false, false, false, false, false, false, false, false, false, false, false, false, false, false, false, false, false, false, false, false, false, false, false, false, false, false, false]
abbrev s_avl_Is_R (t2 : AV) (h : Heap) : St := ⟨[.undef, .undef, t2, .undef, .undef, .undef, .undef, .undef, .undef, .undef, .undef, .undef, .undef, .undef, .undef, .undef, .undef, .undef, .undef, .undef, .undef, .undef, .undef, .undef, .undef, .undef, .undef, .undef, .undef, .undef, .undef, .undef, .undef, .undef, .undef, .undef, .undef], h⟩
abbrev s_avl_Is_K0 (t1 t3 t4 : AV) (h : Heap) : St := ⟨[.undef, t1, .undef, t3, t4, .undef, .undef, .undef, .undef, .undef, .undef, .undef, .undef, .undef, .undef, .undef, .undef, .undef, .undef, .undef, .undef, .undef, .undef, .undef, .undef, .undef, .undef, .undef, .undef, .undef, .undef, .undef, .undef, .undef, .undef, .undef, .undef], h⟩
def i_avl_Is_b0 : IR :=
  (.seq
   (.seq
    (.reg [] [
      ⟨(some 12), .mv (.t 4), none, []⟩,
      ⟨(some 13), .cn (.t 3), none, []⟩,
      ⟨(some 14), .len false (.t 13), none, []⟩,
      ⟨(some 15), .bin .plain .lss (.t 12) (.t 14), none, []⟩])
    (.cond (.t 15)
     .skip
     (.exit 0 i_avl_Is_j0)))
   (.seq
    (.block 1 i_avl_Is_j1
     (.seq
      (.reg [] [
        ⟨(some 18), .cn (.t 3), none, []⟩,
        ⟨(some 19), .mv (.t 4), none, []⟩,
        ⟨(some 20), .bin .plain .sub (.t 19) (.k (.int .i64 1)), none, []⟩,
        ⟨(some 21), .ia 5 (.t 18) (.t 20), none, []⟩,
        ⟨(some 22), .fa 1 (.t 21), none, []⟩,
        ⟨(some 23), .load false 1 (.t 22), none, []⟩,
        ⟨(some 24), .cn (.t 3), none, []⟩,
        ⟨(some 25), .mv (.t 4), none, []⟩,
        ⟨(some 26), .ia 5 (.t 24) (.t 25), none, []⟩,
        ⟨(some 27), .fa 1 (.t 26), none, []⟩,
        ⟨(some 28), .load false 1 (.t 27), none, []⟩,
        ⟨(some 29), .qcall n_bytes_Compare [(.t 23), (.t 28)] [], none, []⟩,
        ⟨(some 30), .bin .plain .geq (.t 29) (.k (.int .i64 0)), none, []⟩])
      (.cond (.t 30)
       (.seq
        (.reg [] [
          ⟨(some 2), .mv (.k (.bool false)), none, []⟩])
        (.ret i_avl_Is_r))
       .skip)))
    (.reg [] [
      ⟨(some 16), .mv (.t 4), none, []⟩,
      ⟨(some 17), .bin .plain .add (.t 16) (.k (.int .i64 1)), none, []⟩,
      ⟨(some 4), .mv (.t 17), none, []⟩])))

abbrev s_avl_Is_J0 (t1 : AV) (h : Heap) : St := ⟨[.undef, t1, .undef, .undef, .undef, .undef, .undef, .undef, .undef, .undef, .undef, .undef, .undef, .undef, .undef, .undef, .undef, .undef, .undef, .undef, .undef, .undef, .undef, .undef, .undef, .undef, .undef, .undef, .undef, .undef, .undef, .undef, .undef, .undef, .undef, .undef, .undef], h⟩
/-- heartwood/avl.Is -/
def i_avl_Is : Ev.Fn := ⟨1, 37, 1,
  (.seq
   (.reg [] [
     ⟨(some 1), .box 0 5 (.t 0), none, []⟩,
     ⟨(some 2), .mv (.k (.bool false)), none, []⟩])
   (.seq
    (.seq
     (.reg [] [
       ⟨(some 7), .load true 5 (.t 1), none, []⟩,
       ⟨(some 8), .qcall n_tree_Full [(.t 7)] [], none, []⟩,
       ⟨(some 9), .un .not (.t 8), none, []⟩])
     (.cond (.t 9)
      (.seq
       (.reg [] [
         ⟨(some 2), .mv (.k (.bool false)), none, []⟩])
       (.ret i_avl_Is_r))
      .skip))
    (.seq
     (.reg [] [
       ⟨(some 10), .load true 5 (.t 1), none, []⟩,
       ⟨(some 11), .qcall n_tree_List [(.t 10)] [], none, []⟩,
       ⟨(some 3), .cn (.t 11), none, []⟩])
     (.seq
      (.seq
       (.reg [] [
         ⟨(some 4), .mv (.k (.int .i64 1)), none, []⟩])
       (.block 0 i_avl_Is_j0
        (.loop i_avl_Is_k0 i_avl_Is_b0)))
      (.seq
       (.reg [] [
         ⟨(some 32), .load true 5 (.t 1), none, []⟩,
         ⟨(some 33), .qcall n_avl_even [(.t 32)] [], none, []⟩,
         ⟨(some 31), .mv (.t 33), none, []⟩,
         ⟨(some 34), .ext 0 (.t 31), none, []⟩,
         ⟨(some 35), .ext 1 (.t 31), none, []⟩,
         ⟨(some 5), .mv (.t 34), none, []⟩,
         ⟨(some 6), .mv (.t 35), none, []⟩])
       (.seq
        (.reg [] [
          ⟨(some 36), .mv (.t 6), none, []⟩,
          ⟨(some 2), .mv (.t 36), none, []⟩])
        (.ret i_avl_Is_r))))))),
  [.tmp 2], [], false, []⟩

def i_tree_Full_r : List Bool := [false, false, true, false, false, false, false, false, false, false]
/-- heartwood/tree.Full -/
def i_tree_Full : Ev.Fn := ⟨1, 10, 1,
  (.seq
   (.reg [] [
     ⟨(some 1), .box 0 5 (.t 0), none, []⟩,
     ⟨(some 2), .mv (.k (.bool false)), none, []⟩])
   (.seq
    (.reg [] [
      ⟨(some 3), .load true 5 (.t 1), none, []⟩,
      ⟨(some 4), .qcall n_tree_Check [(.t 3)] [], none, []⟩,
      ⟨(some 5), .bin (.iface ty_api_Code true) .eql (.t 4) (.k .nilIface), none, []⟩,
      ⟨(some 6), .mv (.t 5), none, []⟩,
      ⟨(some 7), .load true 5 (.t 1), (some (6, true)), []⟩,
      ⟨(some 8), .qcall n_tree_full [(.t 7)] [], (some (6, true)), []⟩,
      ⟨(some 9), .pick (.t 6) (.t 8) (.k (.bool false)), none, []⟩,
      ⟨(some 2), .mv (.t 9), none, []⟩])
    (.ret i_tree_Full_r))),
  [.tmp 2], [], false, []⟩

def i_tree_Check_r : List Bool := [false, false, true, false, false, false, false, false, false, false, false, false]
def i_tree_Check_j0 : List Bool := [false, false, false, false, false, false, false, false, false, false, false, false]
/-- heartwood/tree.Check -/
def i_tree_Check : Ev.Fn := ⟨1, 12, 1,
  (.seq
   (.reg [] [
     ⟨(some 1), .box 0 5 (.t 0), none, []⟩,
     ⟨(some 2), .mv (.k .nilIface), none, []⟩])
   (.seq
    (.block 0 i_tree_Check_j0
     (.seq
      (.reg [] [
        ⟨(some 4), .load true 5 (.t 1), none, []⟩,
        ⟨(some 5), .qcall n_tree_deep [(.t 4), (.k (.int .i64 64))] [], none, []⟩,
        ⟨(some 3), .mv (.t 5), none, []⟩])
      (.cond (.t 3)
       (.seq
        (.reg [] [
          ⟨(some 6), .mki ty_api_Code (.k (.int .i64 5)), none, []⟩,
          ⟨(some 2), .mv (.t 6), none, []⟩])
        (.ret i_tree_Check_r))
       (.seq
        (.reg [] [
          ⟨(some 8), .load true 5 (.t 1), none, []⟩,
          ⟨(some 9), .qcall n_tree_formed [(.t 8)] [], none, []⟩,
          ⟨(some 10), .un .not (.t 9), none, []⟩,
          ⟨(some 7), .mv (.t 10), none, []⟩])
        (.cond (.t 7)
         (.seq
          (.reg [] [
            ⟨(some 11), .mki ty_api_Code (.k (.int .i64 3)), none, []⟩,
            ⟨(some 2), .mv (.t 11), none, []⟩])
          (.ret i_tree_Check_r))
         .skip)))))
    (.seq
     (.reg [] [
       ⟨(some 2), .mv (.k .nilIface), none, []⟩])
     (.ret i_tree_Check_r)))),
  [.tmp 2], [], false, []⟩

def i_tree_deep_r : List Bool := [false, false, false, false, true, false, false, false, false, false, false, false, false, false, false, false, false, false, false, false, false, false, false, false, false, false, false, false, false]
/-- heartwood/tree.deep -/
def i_tree_deep : Ev.Fn := ⟨2, 29, 2,
  (.seq
   (.reg [] [
     ⟨(some 2), .box 0 5 (.t 0), none, []⟩,
     ⟨(some 3), .box 1 1 (.t 1), none, []⟩,
     ⟨(some 4), .mv (.k (.bool false)), none, []⟩])
   (.seq
    (.reg [] [
      ⟨(some 6), .fa 0 (.t 2), none, []⟩,
      ⟨(some 7), .load false 1 (.t 6), none, []⟩,
      ⟨(some 8), .bin .plain .eql (.t 7) (.k (.int .i64 1)), none, []⟩,
      ⟨(some 9), .mv (.t 8), none, []⟩,
      ⟨(some 10), .fa 0 (.t 2), (some (9, false)), []⟩,
      ⟨(some 11), .load false 1 (.t 10), (some (9, false)), []⟩,
      ⟨(some 12), .bin .plain .eql (.t 11) (.k (.int .i64 2)), (some (9, false)), []⟩,
      ⟨(some 13), .pick (.t 9) (.k (.bool true)) (.t 12), none, []⟩,
      ⟨(some 14), .mv (.t 13), none, []⟩,
      ⟨(some 15), .fa 4 (.t 2), (some (14, false)), []⟩,
      ⟨(some 16), .load false 1 (.t 15), (some (14, false)), []⟩,
      ⟨(some 17), .len false (.t 16), (some (14, false)), []⟩,
      ⟨(some 18), .bin .plain .gtr (.t 17) (.k (.int .i64 0)), (some (14, false)), []⟩,
      ⟨(some 19), .pick (.t 14) (.k (.bool true)) (.t 18), none, []⟩,
      ⟨(some 5), .mv (.t 19), none, []⟩])
    (.seq
     (.seq
      (.reg [] [
        ⟨(some 20), .mv (.t 5), none, []⟩,
        ⟨(some 21), .mv (.t 20), none, []⟩,
        ⟨(some 22), .load false 1 (.t 3), (some (21, true)), []⟩,
        ⟨(some 23), .bin .plain .lss (.t 22) (.k (.int .i64 1)), (some (21, true)), []⟩,
        ⟨(some 24), .pick (.t 21) (.t 23) (.k (.bool false)), none, []⟩])
      (.cond (.t 24)
       (.seq
        (.reg [] [
          ⟨(some 4), .mv (.k (.bool true)), none, []⟩])
        (.ret i_tree_deep_r))
       .skip))
     (.seq
      (.reg [] [
        ⟨(some 25), .fa 4 (.t 2), none, []⟩,
        ⟨(some 26), .load false 1 (.t 25), none, []⟩,
        ⟨(some 27), .mkf n_tree_deep_1 [(.t 3)], none, []⟩,
        ⟨(some 28), .call n_slices_ContainsFunc_sl_api_Tree_api_Tree [(.t 26), (.t 27)] [], none, []⟩,
        ⟨(some 4), .mv (.t 28), none, []⟩])
      (.ret i_tree_deep_r))))),
  [.tmp 4], [], false, []⟩

def i_tree_deep_1_r : List Bool := [false, false, false, true, false, false, false, false]
/-- heartwood/tree.deep$1 -/
def i_tree_deep_1 : Ev.Fn := ⟨2, 8, 1,
  (.seq
   (.reg [] [
     ⟨(some 2), .box 0 5 (.t 0), none, []⟩,
     ⟨(some 3), .mv (.k (.bool false)), none, []⟩])
   (.seq
    (.reg [] [
      ⟨(some 4), .load true 5 (.t 2), none, []⟩,
      ⟨(some 5), .load false 1 (.t 1), none, []⟩,
      ⟨(some 6), .bin .plain .sub (.t 5) (.k (.int .i64 1)), none, []⟩,
      ⟨(some 7), .qcall n_tree_deep [(.t 4), (.t 6)] [], none, [4]⟩,
      ⟨(some 3), .mv (.t 7), none, []⟩])
    (.ret i_tree_deep_1_r))),
  [.tmp 3], [], false, []⟩

def i_slices_ContainsFunc_sl_api_Tree_api_Tree_r : List Bool := [false, false, false, false, true, false, false, false, false]
/-- slices.ContainsFunc[[]heartwood/api.Tree,heartwood/api.Tree] -/
def i_slices_ContainsFunc_sl_api_Tree_api_Tree : Ev.Fn := ⟨2, 9, 0,
  (.seq
   (.reg [] [
     ⟨(some 4), .mv (.k (.bool false)), none, []⟩])
   (.seq
    (.reg [] [
      ⟨(some 5), .cn (.t 0), none, []⟩,
      ⟨(some 6), .mv (.t 1), none, []⟩,
      ⟨(some 7), .call n_slices_IndexFunc_sl_api_Tree_api_Tree [(.t 5), (.t 6)] [], none, []⟩,
      ⟨(some 8), .bin .plain .geq (.t 7) (.k (.int .i64 0)), none, []⟩,
      ⟨(some 4), .mv (.t 8), none, []⟩])
    (.ret i_slices_ContainsFunc_sl_api_Tree_api_Tree_r))),
  [.tmp 4], [], false, []⟩

def i_slices_IndexFunc_sl_api_Tree_api_Tree_r : List Bool := [false, false, false, false, true, false, false, false, false, false, false, false, false, false, false, false, false, false, false]
def i_slices_IndexFunc_sl_api_Tree_api_Tree_j1 : List Bool := [true, true, false, false, false, false, false, true, true, false, false, false, false, false, false, false, false, false, false]
def i_slices_IndexFunc_sl_api_Tree_api_Tree_k0 : List Bool := [true, true, false, false, false, false, false, true, true, false, false, false, false, false, false, false, false, false, false]
def i_slices_IndexFunc_sl_api_Tree_api_Tree_j0 : List Bool := [false, false, false, false, false, false, false, false, false, false, false, false, false, false, false, false, false, false, false]
abbrev s_slices_IndexFunc_sl_api_Tree_api_Tree_R (t4 : AV) (h : Heap) : St := ⟨[.undef, .undef, .undef, .undef, t4, .undef, .undef, .undef, .undef, .undef, .undef, .undef, .undef, .undef, .undef, .undef, .undef, .undef, .undef], h⟩
abbrev s_slices_IndexFunc_sl_api_Tree_api_Tree_K0 (t0 t1 t7 t8 : AV) (h : Heap) : St := ⟨[t0, t1, .undef, .undef, .undef, .undef, .undef, t7, t8, .undef, .undef, .undef, .undef, .undef, .undef, .undef, .undef, .undef, .undef], h⟩
def i_slices_IndexFunc_sl_api_Tree_api_Tree_b0 : IR :=
  (.seq
   (.reg [] [
     ⟨(some 9), .bin .plain .lss (.t 8) (.t 7), none, []⟩])
   (.seq
    (.cond (.t 9)
     .skip
     (.exit 0 i_slices_IndexFunc_sl_api_Tree_api_Tree_j0))
    (.seq
     (.block 1 i_slices_IndexFunc_sl_api_Tree_api_Tree_j1
      (.seq
       (.reg [] [
         ⟨(some 10), .mv (.t 8), none, []⟩,
         ⟨(some 5), .mv (.t 10), none, []⟩])
       (.seq
        (.reg [] [
          ⟨(some 11), .mv (.t 1), none, []⟩,
          ⟨(some 12), .cn (.t 0), none, []⟩,
          ⟨(some 13), .mv (.t 5), none, []⟩,
          ⟨(some 14), .ia 5 (.t 12) (.t 13), none, []⟩,
          ⟨(some 15), .load true 5 (.t 14), none, []⟩,
          ⟨(some 16), .callv (.t 11) [(.t 15)] [], none, [15]⟩])
        (.cond (.t 16)
         (.seq
          (.reg [] [
            ⟨(some 17), .mv (.t 5), none, []⟩,
            ⟨(some 4), .mv (.t 17), none, []⟩])
          (.ret i_slices_IndexFunc_sl_api_Tree_api_Tree_r))
         .skip))))
     (.reg [] [
       ⟨(some 18), .bin .plain .add (.t 8) (.k (.int .i64 1)), none, []⟩,
       ⟨(some 8), .mv (.t 18), none, []⟩]))))

abbrev s_slices_IndexFunc_sl_api_Tree_api_Tree_J0 (h : Heap) : St := ⟨[.undef, .undef, .undef, .undef, .undef, .undef, .undef, .undef, .undef, .undef, .undef, .undef, .undef, .undef, .undef, .undef, .undef, .undef, .undef], h⟩
/-- slices.IndexFunc[[]heartwood/api.Tree,heartwood/api.Tree] -/
def i_slices_IndexFunc_sl_api_Tree_api_Tree : Ev.Fn := ⟨2, 19, 0,
  (.seq
   (.reg [] [
     ⟨(some 4), .mv (.k (.int .i64 0)), none, []⟩])
   (.seq
    (.seq
     (.reg [] [
       ⟨(some 6), .cn (.t 0), none, []⟩,
       ⟨(some 7), .len false (.t 6), none, []⟩,
       ⟨(some 8), .mv (.k (.int .i64 0)), none, []⟩])
     (.block 0 i_slices_IndexFunc_sl_api_Tree_api_Tree_j0
      (.loop i_slices_IndexFunc_sl_api_Tree_api_Tree_k0 i_slices_IndexFunc_sl_api_Tree_api_Tree_b0)))
    (.seq
     (.reg [] [
       ⟨(some 4), .mv (.k (.int .i64 (-1))), none, []⟩])
     (.ret i_slices_IndexFunc_sl_api_Tree_api_Tree_r)))),
  [.tmp 4], [], false, []⟩

def i_tree_formed_r : List Bool := [false, false, true, false, false, false, false, false, false, false, false, false, false, false, false, false, false, false, false, false, false, false, false, false, false, false, false, false, false, false, false, false, false, false, false, false, false, false, false, false, false, false, false, false, false, false, false, false, false, false, false, false, false, false, false, false, false, false, false, false, false, false, false, false, false, false, false, false, false, false, false, false, false, false, false, false, false, false, false, false, false, false, false, false, false, false, false]
def i_tree_formed_j0 : List Bool := [false, true, false, true, false, false, false, false, false, false, false, false, false, false, false, false, false, false, false, false, false, false, false, false, false, false, false, false, false, false, false, false, false, false, false, false, false, false, false, false, false, false, false, false, false, false, false, false, false, false, false, false, false, false, false, false, false, false, false, false, false, false, false, false, false, false, false, false, false, false, false, false, false, false, false, false, false, false, false, false, false, false, false, false, false, false, false]
/-- heartwood/tree.formed -/
def i_tree_formed : Ev.Fn := ⟨1, 87, 1,
  (.seq
   (.reg [] [
     ⟨(some 1), .box 0 5 (.t 0), none, []⟩,
     ⟨(some 2), .mv (.k (.bool false)), none, []⟩])
   (.seq
    (.reg [] [
      ⟨(some 3), .mv (.k (.bool false)), none, []⟩])
    (.seq
     (.seq
      (.reg [] [
        ⟨(some 4), .fa 0 (.t 1), none, []⟩,
        ⟨(some 5), .load false 1 (.t 4), none, []⟩])
      (.block 0 i_tree_formed_j0
       (.seq
        (.reg [] [
          ⟨(some 7), .bin .plain .eql (.t 5) (.k (.int .i64 0)), none, []⟩,
          ⟨(some 6), .mv (.t 7), none, []⟩])
        (.cond (.t 6)
         (.reg [] [
           ⟨(some 8), .fa 1 (.t 1), none, []⟩,
           ⟨(some 9), .load false 1 (.t 8), none, []⟩,
           ⟨(some 10), .len false (.t 9), none, []⟩,
           ⟨(some 11), .fa 2 (.t 1), none, []⟩,
           ⟨(some 12), .load false 1 (.t 11), none, []⟩,
           ⟨(some 13), .len false (.t 12), none, []⟩,
           ⟨(some 14), .bin .plain .add (.t 10) (.t 13), none, []⟩,
           ⟨(some 15), .fa 3 (.t 1), none, []⟩,
           ⟨(some 16), .load false 1 (.t 15), none, []⟩,
           ⟨(some 17), .len false (.t 16), none, []⟩,
           ⟨(some 18), .bin .plain .add (.t 14) (.t 17), none, []⟩,
           ⟨(some 19), .fa 4 (.t 1), none, []⟩,
           ⟨(some 20), .load false 1 (.t 19), none, []⟩,
           ⟨(some 21), .len false (.t 20), none, []⟩,
           ⟨(some 22), .bin .plain .add (.t 18) (.t 21), none, []⟩,
           ⟨(some 23), .bin .plain .eql (.t 22) (.k (.int .i64 0)), none, []⟩,
           ⟨(some 3), .mv (.t 23), none, []⟩])
         (.seq
          (.reg [] [
            ⟨(some 25), .bin .plain .eql (.t 5) (.k (.int .i64 1)), none, []⟩,
            ⟨(some 24), .mv (.t 25), none, []⟩])
          (.cond (.t 24)
           (.reg [] [
             ⟨(some 26), .fa 1 (.t 1), none, []⟩,
             ⟨(some 27), .load false 1 (.t 26), none, []⟩,
             ⟨(some 28), .len false (.t 27), none, []⟩,
             ⟨(some 29), .bin .plain .leq (.t 28) (.k (.int .i64 80)), none, []⟩,
             ⟨(some 30), .mv (.t 29), none, []⟩,
             ⟨(some 31), .fa 2 (.t 1), (some (30, true)), []⟩,
             ⟨(some 32), .load false 1 (.t 31), (some (30, true)), []⟩,
             ⟨(some 33), .len false (.t 32), (some (30, true)), []⟩,
             ⟨(some 34), .bin .plain .leq (.t 33) (.k (.int .i64 1024)), (some (30, true)), []⟩,
             ⟨(some 35), .pick (.t 30) (.t 34) (.k (.bool false)), none, []⟩,
             ⟨(some 36), .mv (.t 35), none, []⟩,
             ⟨(some 37), .fa 3 (.t 1), (some (36, true)), []⟩,
             ⟨(some 38), .load false 1 (.t 37), (some (36, true)), []⟩,
             ⟨(some 39), .len false (.t 38), (some (36, true)), []⟩,
             ⟨(some 40), .bin .plain .eql (.t 39) (.k (.int .i64 0)), (some (36, true)), []⟩,
             ⟨(some 41), .pick (.t 36) (.t 40) (.k (.bool false)), none, []⟩,
             ⟨(some 42), .mv (.t 41), none, []⟩,
             ⟨(some 43), .fa 4 (.t 1), (some (42, true)), []⟩,
             ⟨(some 44), .load false 1 (.t 43), (some (42, true)), []⟩,
             ⟨(some 45), .len false (.t 44), (some (42, true)), []⟩,
             ⟨(some 46), .bin .plain .eql (.t 45) (.k (.int .i64 2)), (some (42, true)), []⟩,
             ⟨(some 47), .pick (.t 42) (.t 46) (.k (.bool false)), none, []⟩,
             ⟨(some 3), .mv (.t 47), none, []⟩])
           (.seq
            (.reg [] [
              ⟨(some 49), .bin .plain .eql (.t 5) (.k (.int .i64 2)), none, []⟩,
              ⟨(some 48), .mv (.t 49), none, []⟩])
            (.cond (.t 48)
             (.reg [] [
               ⟨(some 50), .fa 1 (.t 1), none, []⟩,
               ⟨(some 51), .load false 1 (.t 50), none, []⟩,
               ⟨(some 52), .len false (.t 51), none, []⟩,
               ⟨(some 53), .bin .plain .leq (.t 52) (.k (.int .i64 80)), none, []⟩,
               ⟨(some 54), .mv (.t 53), none, []⟩,
               ⟨(some 55), .fa 2 (.t 1), (some (54, true)), []⟩,
               ⟨(some 56), .load false 1 (.t 55), (some (54, true)), []⟩,
               ⟨(some 57), .len false (.t 56), (some (54, true)), []⟩,
               ⟨(some 58), .bin .plain .eql (.t 57) (.k (.int .i64 0)), (some (54, true)), []⟩,
               ⟨(some 59), .pick (.t 54) (.t 58) (.k (.bool false)), none, []⟩,
               ⟨(some 60), .mv (.t 59), none, []⟩,
               ⟨(some 61), .fa 4 (.t 1), (some (60, true)), []⟩,
               ⟨(some 62), .load false 1 (.t 61), (some (60, true)), []⟩,
               ⟨(some 63), .len false (.t 62), (some (60, true)), []⟩,
               ⟨(some 64), .bin .plain .eql (.t 63) (.k (.int .i64 2)), (some (60, true)), []⟩,
               ⟨(some 65), .pick (.t 60) (.t 64) (.k (.bool false)), none, []⟩,
               ⟨(some 3), .mv (.t 65), none, []⟩])
             (.seq
              (.reg [] [
                ⟨(some 67), .bin .plain .eql (.t 5) (.k (.int .i64 3)), none, []⟩,
                ⟨(some 66), .mv (.t 67), none, []⟩])
              (.cond (.t 66)
               (.reg [] [
                 ⟨(some 68), .fa 1 (.t 1), none, []⟩,
                 ⟨(some 69), .load false 1 (.t 68), none, []⟩,
                 ⟨(some 70), .len false (.t 69), none, []⟩,
                 ⟨(some 71), .fa 2 (.t 1), none, []⟩,
                 ⟨(some 72), .load false 1 (.t 71), none, []⟩,
                 ⟨(some 73), .len false (.t 72), none, []⟩,
                 ⟨(some 74), .bin .plain .add (.t 70) (.t 73), none, []⟩,
                 ⟨(some 75), .fa 4 (.t 1), none, []⟩,
                 ⟨(some 76), .load false 1 (.t 75), none, []⟩,
                 ⟨(some 77), .len false (.t 76), none, []⟩,
                 ⟨(some 78), .bin .plain .add (.t 74) (.t 77), none, []⟩,
                 ⟨(some 79), .bin .plain .eql (.t 78) (.k (.int .i64 0)), none, []⟩,
                 ⟨(some 3), .mv (.t 79), none, []⟩])
               .skip))))))))))
     (.seq
      (.reg [] [
        ⟨(some 80), .mv (.t 3), none, []⟩,
        ⟨(some 81), .mv (.t 80), none, []⟩,
        ⟨(some 82), .fa 4 (.t 1), (some (81, true)), []⟩,
        ⟨(some 83), .load false 1 (.t 82), (some (81, true)), []⟩,
        ⟨(some 84), .call n_slices_ContainsFunc_sl_api_Tree_api_Tree [(.t 83), (.f n_tree_formed_1)] [], (some (81, true)), []⟩,
        ⟨(some 85), .un .not (.t 84), (some (81, true)), []⟩,
        ⟨(some 86), .pick (.t 81) (.t 85) (.k (.bool false)), none, []⟩,
        ⟨(some 2), .mv (.t 86), none, []⟩])
      (.ret i_tree_formed_r))))),
  [.tmp 2], [], false, []⟩

def i_tree_formed_1_r : List Bool := [false, false, true, false, false, false]
/-- heartwood/tree.formed$1 -/
def i_tree_formed_1 : Ev.Fn := ⟨1, 6, 1,
  (.seq
   (.reg [] [
     ⟨(some 1), .box 0 5 (.t 0), none, []⟩,
     ⟨(some 2), .mv (.k (.bool false)), none, []⟩])
   (.seq
    (.reg [] [
      ⟨(some 3), .load true 5 (.t 1), none, []⟩,
      ⟨(some 4), .qcall n_tree_formed [(.t 3)] [], none, []⟩,
      ⟨(some 5), .un .not (.t 4), none, []⟩,
      ⟨(some 2), .mv (.t 5), none, []⟩])
    (.ret i_tree_formed_1_r))),
  [.tmp 2], [], false, []⟩

def i_tree_full_r : List Bool := [false, false, true, false, false, false, false, false, false, false, false, false, false, false, false]
/-- heartwood/tree.full -/
def i_tree_full : Ev.Fn := ⟨1, 15, 1,
  (.seq
   (.reg [] [
     ⟨(some 1), .box 0 5 (.t 0), none, []⟩,
     ⟨(some 2), .mv (.k (.bool false)), none, []⟩])
   (.seq
    (.seq
     (.reg [] [
       ⟨(some 3), .fa 0 (.t 1), none, []⟩,
       ⟨(some 4), .load false 1 (.t 3), none, []⟩,
       ⟨(some 5), .bin .plain .eql (.t 4) (.k (.int .i64 2)), none, []⟩,
       ⟨(some 6), .mv (.t 5), none, []⟩,
       ⟨(some 7), .fa 0 (.t 1), (some (6, false)), []⟩,
       ⟨(some 8), .load false 1 (.t 7), (some (6, false)), []⟩,
       ⟨(some 9), .bin .plain .eql (.t 8) (.k (.int .i64 3)), (some (6, false)), []⟩,
       ⟨(some 10), .pick (.t 6) (.k (.bool true)) (.t 9), none, []⟩])
     (.cond (.t 10)
      (.seq
       (.reg [] [
         ⟨(some 2), .mv (.k (.bool false)), none, []⟩])
       (.ret i_tree_full_r))
      .skip))
    (.seq
     (.reg [] [
       ⟨(some 11), .fa 4 (.t 1), none, []⟩,
       ⟨(some 12), .load false 1 (.t 11), none, []⟩,
       ⟨(some 13), .call n_slices_ContainsFunc_sl_api_Tree_api_Tree [(.t 12), (.f n_tree_full_1)] [], none, []⟩,
       ⟨(some 14), .un .not (.t 13), none, []⟩,
       ⟨(some 2), .mv (.t 14), none, []⟩])
     (.ret i_tree_full_r)))),
  [.tmp 2], [], false, []⟩

def i_tree_full_1_r : List Bool := [false, false, true, false, false, false]
/-- heartwood/tree.full$1 -/
def i_tree_full_1 : Ev.Fn := ⟨1, 6, 1,
  (.seq
   (.reg [] [
     ⟨(some 1), .box 0 5 (.t 0), none, []⟩,
     ⟨(some 2), .mv (.k (.bool false)), none, []⟩])
   (.seq
    (.reg [] [
      ⟨(some 3), .load true 5 (.t 1), none, []⟩,
      ⟨(some 4), .qcall n_tree_full [(.t 3)] [], none, []⟩,
      ⟨(some 5), .un .not (.t 4), none, []⟩,
      ⟨(some 2), .mv (.t 5), none, []⟩])
    (.ret i_tree_full_1_r))),
  [.tmp 2], [], false, []⟩

def i_tree_List_r : List Bool := [false, false, true, false, false, false, false, false, false, false, false, false, false]
/-- heartwood/tree.List -/
def i_tree_List : Ev.Fn := ⟨1, 13, 4,
  (.seq
   (.reg [] [
     ⟨(some 1), .box 0 5 (.t 0), none, []⟩,
     ⟨(some 2), .cn (.k (.slice none 0 0)), none, []⟩])
   (.seq
    (.seq
     (.reg [] [
       ⟨(some 5), .load true 5 (.t 1), none, []⟩,
       ⟨(some 6), .qcall n_tree_Check [(.t 5)] [], none, []⟩,
       ⟨(some 7), .bin (.iface ty_api_Code true) .neq (.t 6) (.k .nilIface), none, []⟩])
     (.cond (.t 7)
      (.seq
       (.reg [] [
         ⟨(some 2), .cn (.k (.slice none 0 0)), none, []⟩])
       (.ret i_tree_List_r))
      .skip))
    (.seq
     (.reg [] [
       ⟨(some 3), .new 1 [(.slice none 0 0)], none, []⟩])
     (.seq
      (.reg [] [
        ⟨(some 4), .new 2 [.nilFunc], none, []⟩])
      (.seq
       (.reg [] [
         ⟨(some 8), .mkf n_tree_List_1 [(.t 4), (.t 3)], none, []⟩,
         ⟨none, .store 1 (.t 4) (.t 8), none, []⟩])
       (.seq
        (.reg [] [
          ⟨(some 9), .load false 1 (.t 4), none, []⟩,
          ⟨(some 10), .load true 5 (.t 1), none, []⟩,
          ⟨(some 11), .callv (.t 9) [(.t 10)] [3], none, []⟩])
        (.seq
         (.reg [] [
           ⟨(some 12), .load false 1 (.t 3), none, []⟩,
           ⟨(some 2), .cn (.t 12), none, []⟩])
         (.ret i_tree_List_r)))))))),
  [.tmp 2], [], false, []⟩

def i_tree_List_1_r : List Bool := [false, false, false, false, false, false, false, false, false, false, false, false, false, false, false, false, false, false, false, false, false, false, false, false, false, false]
/-- heartwood/tree.List$1 -/
def i_tree_List_1 : Ev.Fn := ⟨3, 26, 4,
  (.seq
   (.reg [] [
     ⟨(some 3), .box 0 5 (.t 0), none, []⟩])
   (.seq
    (.seq
     (.reg [] [
       ⟨(some 4), .fa 4 (.t 3), none, []⟩,
       ⟨(some 5), .load false 1 (.t 4), none, []⟩,
       ⟨(some 6), .len false (.t 5), none, []⟩,
       ⟨(some 7), .bin .plain .eql (.t 6) (.k (.int .i64 0)), none, []⟩])
     (.cond (.t 7)
      (.ret i_tree_List_1_r)
      .skip))
    (.seq
     (.reg [] [
       ⟨(some 8), .load false 1 (.t 1), none, []⟩,
       ⟨(some 9), .fa 4 (.t 3), none, []⟩,
       ⟨(some 10), .load false 1 (.t 9), none, []⟩,
       ⟨(some 11), .ia 5 (.t 10) (.k (.int .i64 0)), none, []⟩,
       ⟨(some 12), .load true 5 (.t 11), none, []⟩,
       ⟨(some 13), .callv (.t 8) [(.t 12)] [1], none, [12]⟩])
     (.seq
      (.reg [(5, 7), (6, 7)] [
        ⟨(some 14), .load false 1 (.t 2), none, []⟩,
        ⟨(some 15), .load true 5 (.t 3), none, []⟩,
        ⟨(some 16), .len false (.t 14), none, []⟩,
        ⟨(some 17), .litd 5 1 [(.int .i64 0), (.slice none 0 0), (.slice none 0 0), (.slice none 0 0), (.slice none 0 0)] [(0, (.k (.agg #[(.int .i64 0), (.slice none 0 0), (.slice none 0 0), (.slice none 0 0), (.slice none 0 0)])))], none, []⟩,
        ⟨(some 18), .app 2 ty_api_Tree 5 104 (.t 14) (.t 17), none, []⟩,
        ⟨(some 19), .ia 5 (.t 18) (.t 16), none, []⟩,
        ⟨none, .store 5 (.t 19) (.t 15), none, [15]⟩,
        ⟨none, .store 1 (.t 2) (.t 18), none, []⟩])
      (.reg [] [
        ⟨(some 20), .load false 1 (.t 1), none, []⟩,
        ⟨(some 21), .fa 4 (.t 3), none, []⟩,
        ⟨(some 22), .load false 1 (.t 21), none, []⟩,
        ⟨(some 23), .ia 5 (.t 22) (.k (.int .i64 1)), none, []⟩,
        ⟨(some 24), .load true 5 (.t 23), none, []⟩,
        ⟨(some 25), .callv (.t 20) [(.t 24)] [3], none, [24]⟩]))))),
  [], [], false, []⟩

def i_avl_even_r : List Bool := [false, false, true, true, false, false, false, false, false, false, false, false, false, false, false, false, false, false, false, false, false, false, false, false, false, false, false, false, false, false, false, false, false, false, false, false, false, false, false, false, false, false, false, false, false, false, false, false]
/-- heartwood/avl.even -/
def i_avl_even : Ev.Fn := ⟨1, 48, 1,
  (.seq
   (.reg [] [
     ⟨(some 1), .box 0 5 (.t 0), none, []⟩,
     ⟨(some 2), .mv (.k (.int .i64 0)), none, []⟩,
     ⟨(some 3), .mv (.k (.bool false)), none, []⟩])
   (.seq
    (.seq
     (.reg [] [
       ⟨(some 8), .fa 4 (.t 1), none, []⟩,
       ⟨(some 9), .load false 1 (.t 8), none, []⟩,
       ⟨(some 10), .len false (.t 9), none, []⟩,
       ⟨(some 11), .bin .plain .eql (.t 10) (.k (.int .i64 0)), none, []⟩])
     (.cond (.t 11)
      (.seq
       (.reg [] [
         ⟨(some 2), .mv (.k (.int .i64 0)), none, []⟩,
         ⟨(some 3), .mv (.k (.bool true)), none, []⟩])
       (.ret i_avl_even_r))
      .skip))
    (.seq
     (.reg [] [
       ⟨(some 13), .fa 4 (.t 1), none, []⟩,
       ⟨(some 14), .load false 1 (.t 13), none, []⟩,
       ⟨(some 15), .ia 5 (.t 14) (.k (.int .i64 0)), none, []⟩,
       ⟨(some 16), .load true 5 (.t 15), none, []⟩,
       ⟨(some 17), .qcall n_avl_even [(.t 16)] [], none, []⟩,
       ⟨(some 12), .mv (.t 17), none, []⟩,
       ⟨(some 18), .ext 0 (.t 12), none, []⟩,
       ⟨(some 19), .ext 1 (.t 12), none, []⟩,
       ⟨(some 4), .mv (.t 18), none, []⟩,
       ⟨(some 5), .mv (.t 19), none, []⟩])
     (.seq
      (.reg [] [
        ⟨(some 21), .fa 4 (.t 1), none, []⟩,
        ⟨(some 22), .load false 1 (.t 21), none, []⟩,
        ⟨(some 23), .ia 5 (.t 22) (.k (.int .i64 1)), none, []⟩,
        ⟨(some 24), .load true 5 (.t 23), none, []⟩,
        ⟨(some 25), .qcall n_avl_even [(.t 24)] [], none, []⟩,
        ⟨(some 20), .mv (.t 25), none, []⟩,
        ⟨(some 26), .ext 0 (.t 20), none, []⟩,
        ⟨(some 27), .ext 1 (.t 20), none, []⟩,
        ⟨(some 6), .mv (.t 26), none, []⟩,
        ⟨(some 7), .mv (.t 27), none, []⟩])
      (.seq
       (.reg [] [
         ⟨(some 28), .mv (.t 4), none, []⟩,
         ⟨(some 29), .mv (.t 6), none, []⟩,
         ⟨(some 30), .mx (.t 28) (.t 29), none, []⟩,
         ⟨(some 31), .bin .plain .add (.t 30) (.k (.int .i64 1)), none, []⟩,
         ⟨(some 32), .mv (.t 5), none, []⟩,
         ⟨(some 33), .mv (.t 32), none, []⟩,
         ⟨(some 34), .mv (.t 7), (some (33, true)), []⟩,
         ⟨(some 35), .pick (.t 33) (.t 34) (.k (.bool false)), none, []⟩,
         ⟨(some 36), .mv (.t 35), none, []⟩,
         ⟨(some 37), .mv (.t 4), (some (36, true)), []⟩,
         ⟨(some 38), .mv (.t 6), (some (36, true)), []⟩,
         ⟨(some 39), .bin .plain .sub (.t 37) (.t 38), (some (36, true)), []⟩,
         ⟨(some 40), .bin .plain .leq (.t 39) (.k (.int .i64 1)), (some (36, true)), []⟩,
         ⟨(some 41), .pick (.t 36) (.t 40) (.k (.bool false)), none, []⟩,
         ⟨(some 42), .mv (.t 41), none, []⟩,
         ⟨(some 43), .mv (.t 6), (some (42, true)), []⟩,
         ⟨(some 44), .mv (.t 4), (some (42, true)), []⟩,
         ⟨(some 45), .bin .plain .sub (.t 43) (.t 44), (some (42, true)), []⟩,
         ⟨(some 46), .bin .plain .leq (.t 45) (.k (.int .i64 1)), (some (42, true)), []⟩,
         ⟨(some 47), .pick (.t 42) (.t 46) (.k (.bool false)), none, []⟩,
         ⟨(some 2), .mv (.t 31), none, []⟩,
         ⟨(some 3), .mv (.t 47), none, []⟩])
       (.ret i_avl_even_r)))))),
  [.tmp 2, .tmp 3], [], false, []⟩

def i_slices_Clone_sl_byte_byte_r : List Bool := [false, false, true, false, false, false, false, false]
/-- slices.Clone[[]byte,byte] -/
def i_slices_Clone_sl_byte_byte : Ev.Fn := ⟨1, 8, 1,
  (.seq
   (.reg [] [
     ⟨(some 2), .cn (.k (.slice none 0 0)), none, []⟩])
   (.seq
    (.seq
     (.reg [] [
       ⟨(some 3), .mv (.t 0), none, []⟩,
       ⟨(some 4), .bin .slice .eql (.t 3) (.k (.slice none 0 0)), none, []⟩])
     (.cond (.t 4)
      (.seq
       (.reg [] [
         ⟨(some 2), .cn (.k (.slice none 0 0)), none, []⟩])
       (.ret i_slices_Clone_sl_byte_byte_r))
      .skip))
    (.seq
     (.reg [] [
       ⟨(some 5), .lit 0 ty_uint8 1 0 [(.int .u8 0)] [], none, []⟩,
       ⟨(some 6), .cn (.t 0), none, []⟩,
       ⟨(some 7), .app 0 ty_uint8 1 1 (.t 5) (.t 6), none, []⟩,
       ⟨(some 2), .cn (.t 7), none, [7]⟩])
     (.ret i_slices_Clone_sl_byte_byte_r)))),
  [.tmp 2], [], true, []⟩

def i_ref05_Is_r : List Bool := [false, false, true, false, false, false, false, false, false, false, false, false, false, false, false, false, false, false, false, false, false, false, false, false, false, false, false, false, false, false, false, false, false, false, false, false, false, false, false, false, false, false, false, false, false, false, false, false, false, false, false, false, false, false, false, false, false, false, false, false, false, false, false]
def i_ref05_Is_j1 : List Bool := [false, false, false, false, true, true, false, false, false, false, false, false, false, false, false, false, false, false, false, false, false, false, false, false, false, false, false, false, false, false, false, false, false, false, false, false, false, false, false, false, false, false, false, false, false, false, false, false, false, false, false, false, false, false, false, false, false, false, false, false, false, false, false]
def i_ref05_Is_k0 : List Bool := [false, false, false, false, true, true, false, false, false, false, false, false, false, false, false, false, false, false, false, false, false, false, false, false, false, false, false, false, false, false, false, false, false, false, false, false, false, false, false, false, false, false, false, false, false, false, false, false, false, false, false, false, false, false, false, false, false, false, false, false, false, false, false]
def i_ref05_Is_j0 : List Bool := [false, false, false, false, false, false, false, false, false, false, false, false, false, false, false, false, false, false, false, false, false, false, false, false, false, false, false, false, false, false, false, false, false, false, false, false, false, false, false, false, false, false, false, false, false, false, false, false, false, false, false, false, false, false, false, false, false, false, false, false, false, false, false]
abbrev s_ref05_Is_R (t2 : AV) (h : Heap) : St := ⟨[.undef, .undef, t2, .undef, .undef, .undef, .undef, .undef, .undef, .undef, .undef, .undef, .undef, .undef, .undef, .undef, .undef, .undef, .undef, .undef, .undef, .undef, .undef, .undef, .undef, .undef, .undef, .undef, .undef, .undef, .undef, .undef, .undef, .undef, .undef, .undef, .undef, .undef, .undef, .undef, .undef, .undef, .undef, .undef, .undef, .undef, .undef, .undef, .undef, .undef, .undef, .undef, .undef, .undef, .undef, .undef, .undef, .undef, .undef, .undef, .undef, .undef, .undef], h⟩
abbrev s_ref05_Is_K0 (t4 t5 : AV) (h : Heap) : St := ⟨[.undef, .undef, .undef, .undef, t4, t5, .undef, .undef, .undef, .undef, .undef, .undef, .undef, .undef, .undef, .undef, .undef, .undef, .undef, .undef, .undef, .undef, .undef, .undef, .undef, .undef, .undef, .undef, .undef, .undef, .undef, .undef, .undef, .undef, .undef, .undef, .undef, .undef, .undef, .undef, .undef, .undef, .undef, .undef, .undef, .undef, .undef, .undef, .undef, .undef, .undef, .undef, .undef, .undef, .undef, .undef, .undef, .undef, .undef, .undef, .undef, .undef, .undef], h⟩
def i_ref05_Is_b0 : IR :=
  (.seq
   (.seq
    (.reg [] [
      ⟨(some 16), .mv (.t 5), none, []⟩,
      ⟨(some 17), .cn (.t 4), none, []⟩,
      ⟨(some 18), .len false (.t 17), none, []⟩,
      ⟨(some 19), .bin .plain .lss (.t 16) (.t 18), none, []⟩])
    (.cond (.t 19)
     .skip
     (.exit 0 i_ref05_Is_j0)))
   (.seq
    (.block 1 i_ref05_Is_j1
     (.seq
      (.seq
       (.reg [] [
         ⟨(some 22), .mv (.t 5), none, []⟩,
         ⟨(some 23), .bin .plain .gtr (.t 22) (.k (.int .i64 0)), none, []⟩,
         ⟨(some 24), .mv (.t 23), none, []⟩,
         ⟨(some 25), .cn (.t 4), (some (24, true)), []⟩,
         ⟨(some 26), .mv (.t 5), (some (24, true)), []⟩,
         ⟨(some 27), .bin .plain .sub (.t 26) (.k (.int .i64 1)), (some (24, true)), []⟩,
         ⟨(some 28), .ia 5 (.t 25) (.t 27), (some (24, true)), []⟩,
         ⟨(some 29), .fa 1 (.t 28), (some (24, true)), []⟩,
         ⟨(some 30), .load false 1 (.t 29), (some (24, true)), []⟩,
         ⟨(some 31), .b2s (.t 30), (some (24, true)), []⟩,
         ⟨(some 32), .cn (.t 4), (some (24, true)), []⟩,
         ⟨(some 33), .mv (.t 5), (some (24, true)), []⟩,
         ⟨(some 34), .ia 5 (.t 32) (.t 33), (some (24, true)), []⟩,
         ⟨(some 35), .fa 1 (.t 34), (some (24, true)), []⟩,
         ⟨(some 36), .load false 1 (.t 35), (some (24, true)), []⟩,
         ⟨(some 37), .b2s (.t 36), (some (24, true)), []⟩,
         ⟨(some 38), .bin .plain .geq (.t 31) (.t 37), (some (24, true)), []⟩,
         ⟨(some 39), .pick (.t 24) (.t 38) (.k (.bool false)), none, []⟩])
       (.cond (.t 39)
        (.seq
         (.reg [] [
           ⟨(some 2), .mv (.k (.bool false)), none, []⟩])
         (.ret i_ref05_Is_r))
        .skip))
      (.seq
       (.reg [] [
         ⟨(some 40), .cn (.t 4), none, []⟩,
         ⟨(some 41), .mv (.t 5), none, []⟩,
         ⟨(some 42), .ia 5 (.t 40) (.t 41), none, []⟩,
         ⟨(some 43), .fa 4 (.t 42), none, []⟩,
         ⟨(some 44), .load false 1 (.t 43), none, []⟩,
         ⟨(some 45), .ia 5 (.t 44) (.k (.int .i64 0)), none, []⟩,
         ⟨(some 46), .load true 5 (.t 45), none, []⟩,
         ⟨(some 47), .qcall n_ref04_Depth [(.t 46)] [], none, []⟩,
         ⟨(some 48), .cn (.t 4), none, []⟩,
         ⟨(some 49), .mv (.t 5), none, []⟩,
         ⟨(some 50), .ia 5 (.t 48) (.t 49), none, []⟩,
         ⟨(some 51), .fa 4 (.t 50), none, []⟩,
         ⟨(some 52), .load false 1 (.t 51), none, []⟩,
         ⟨(some 53), .ia 5 (.t 52) (.k (.int .i64 1)), none, []⟩,
         ⟨(some 54), .load true 5 (.t 53), none, []⟩,
         ⟨(some 55), .qcall n_ref04_Depth [(.t 54)] [], none, []⟩,
         ⟨(some 56), .bin .plain .sub (.t 47) (.t 55), none, []⟩,
         ⟨(some 6), .mv (.t 56), none, []⟩])
       (.seq
        (.reg [] [
          ⟨(some 57), .mv (.t 6), none, []⟩,
          ⟨(some 58), .bin .plain .gtr (.t 57) (.k (.int .i64 1)), none, []⟩,
          ⟨(some 59), .mv (.t 58), none, []⟩,
          ⟨(some 60), .mv (.t 6), (some (59, false)), []⟩,
          ⟨(some 61), .bin .plain .lss (.t 60) (.k (.int .i64 (-1))), (some (59, false)), []⟩,
          ⟨(some 62), .pick (.t 59) (.k (.bool true)) (.t 61), none, []⟩])
        (.cond (.t 62)
         (.seq
          (.reg [] [
            ⟨(some 2), .mv (.k (.bool false)), none, []⟩])
          (.ret i_ref05_Is_r))
         .skip)))))
    (.reg [] [
      ⟨(some 20), .mv (.t 5), none, []⟩,
      ⟨(some 21), .bin .plain .add (.t 20) (.k (.int .i64 1)), none, []⟩,
      ⟨(some 5), .mv (.t 21), none, []⟩])))

abbrev s_ref05_Is_J0 (h : Heap) : St := ⟨[.undef, .undef, .undef, .undef, .undef, .undef, .undef, .undef, .undef, .undef, .undef, .undef, .undef, .undef, .undef, .undef, .undef, .undef, .undef, .undef, .undef, .undef, .undef, .undef, .undef, .undef, .undef, .undef, .undef, .undef, .undef, .undef, .undef, .undef, .undef, .undef, .undef, .undef, .undef, .undef, .undef, .undef, .undef, .undef, .undef, .undef, .undef, .undef, .undef, .undef, .undef, .undef, .undef, .undef, .undef, .undef, .undef, .undef, .undef, .undef, .undef, .undef, .undef], h⟩
/-- heartwood/heartwoodref05.Is -/
def i_ref05_Is : Ev.Fn := ⟨1, 63, 1,
  (.seq
   (.reg [] [
     ⟨(some 1), .box 0 5 (.t 0), none, []⟩,
     ⟨(some 2), .mv (.k (.bool false)), none, []⟩])
   (.seq
    (.seq
     (.reg [] [
       ⟨(some 7), .load true 5 (.t 1), none, []⟩,
       ⟨(some 8), .qcall n_ref04_Check [(.t 7)] [], none, []⟩,
       ⟨(some 9), .bin .plain .neq (.t 8) (.k (.int .i64 0)), none, []⟩])
     (.cond (.t 9)
      (.seq
       (.reg [] [
         ⟨(some 2), .mv (.k (.bool false)), none, []⟩])
       (.ret i_ref05_Is_r))
      .skip))
    (.seq
     (.reg [] [
       ⟨(some 10), .load true 5 (.t 1), none, []⟩,
       ⟨(some 11), .qcall n_ref04_Full [(.t 10)] [], none, []⟩,
       ⟨(some 3), .mv (.t 11), none, []⟩])
     (.seq
      (.seq
       (.reg [] [
         ⟨(some 12), .mv (.t 3), none, []⟩,
         ⟨(some 13), .un .not (.t 12), none, []⟩])
       (.cond (.t 13)
        (.seq
         (.reg [] [
           ⟨(some 2), .mv (.k (.bool false)), none, []⟩])
         (.ret i_ref05_Is_r))
        .skip))
      (.seq
       (.reg [] [
         ⟨(some 14), .load true 5 (.t 1), none, []⟩,
         ⟨(some 15), .qcall n_ref04_List [(.t 14)] [], none, []⟩,
         ⟨(some 4), .cn (.t 15), none, []⟩])
       (.seq
        (.seq
         (.reg [] [
           ⟨(some 5), .mv (.k (.int .i64 0)), none, []⟩])
         (.block 0 i_ref05_Is_j0
          (.loop i_ref05_Is_k0 i_ref05_Is_b0)))
        (.seq
         (.reg [] [
           ⟨(some 2), .mv (.k (.bool true)), none, []⟩])
         (.ret i_ref05_Is_r)))))))),
  [.tmp 2], [], false, []⟩

def i_ref04_Check_r : List Bool := [false, false, true, false, false, false, false, false, false, false, false, false]
/-- heartwood/heartwoodref04.Check -/
def i_ref04_Check : Ev.Fn := ⟨1, 12, 1,
  (.seq
   (.reg [] [
     ⟨(some 1), .box 0 5 (.t 0), none, []⟩,
     ⟨(some 2), .mv (.k (.int .i64 0)), none, []⟩])
   (.seq
    (.reg [] [
      ⟨(some 5), .load true 5 (.t 1), none, []⟩,
      ⟨(some 6), .qcall n_ref04_Deep [(.t 5), (.k (.int .i64 64))] [], none, []⟩,
      ⟨(some 3), .mv (.t 6), none, []⟩])
    (.seq
     (.seq
      (.reg [] [
        ⟨(some 7), .mv (.t 3), none, []⟩])
      (.cond (.t 7)
       (.seq
        (.reg [] [
          ⟨(some 2), .mv (.k (.int .i64 5)), none, []⟩])
        (.ret i_ref04_Check_r))
       .skip))
     (.seq
      (.reg [] [
        ⟨(some 8), .load true 5 (.t 1), none, []⟩,
        ⟨(some 9), .qcall n_ref04_Formed [(.t 8)] [], none, []⟩,
        ⟨(some 4), .mv (.t 9), none, []⟩])
      (.seq
       (.seq
        (.reg [] [
          ⟨(some 10), .mv (.t 4), none, []⟩,
          ⟨(some 11), .un .not (.t 10), none, []⟩])
        (.cond (.t 11)
         (.seq
          (.reg [] [
            ⟨(some 2), .mv (.k (.int .i64 3)), none, []⟩])
          (.ret i_ref04_Check_r))
         .skip))
       (.seq
        (.reg [] [
          ⟨(some 2), .mv (.k (.int .i64 0)), none, []⟩])
        (.ret i_ref04_Check_r))))))),
  [.tmp 2], [], false, []⟩

def i_ref04_Deep_r : List Bool := [false, false, false, false, true, false, false, false, false, false, false, false, false, false, false, false, false, false, false, false, false, false, false, false, false, false, false, false, false, false, false, false, false, false, false, false, false, false, false, false, false, false, false]
def i_ref04_Deep_j1 : List Bool := [false, true, true, false, false, false, true, false, false, false, false, false, false, false, false, false, false, false, false, false, false, false, false, false, false, false, false, false, false, false, false, false, false, false, false, false, false, false, false, false, false, false, false]
def i_ref04_Deep_k0 : List Bool := [false, true, true, false, false, false, true, false, false, false, false, false, false, false, false, false, false, false, false, false, false, false, false, false, false, false, false, false, false, false, false, false, false, false, false, false, false, false, false, false, false, false, false]
def i_ref04_Deep_j0 : List Bool := [false, false, false, false, false, false, false, false, false, false, false, false, false, false, false, false, false, false, false, false, false, false, false, false, false, false, false, false, false, false, false, false, false, false, false, false, false, false, false, false, false, false, false]
abbrev s_ref04_Deep_R (t4 : AV) (h : Heap) : St := ⟨[.undef, .undef, .undef, .undef, t4, .undef, .undef, .undef, .undef, .undef, .undef, .undef, .undef, .undef, .undef, .undef, .undef, .undef, .undef, .undef, .undef, .undef, .undef, .undef, .undef, .undef, .undef, .undef, .undef, .undef, .undef, .undef, .undef, .undef, .undef, .undef, .undef, .undef, .undef, .undef, .undef, .undef, .undef], h⟩
abbrev s_ref04_Deep_K0 (t1 t2 t6 : AV) (h : Heap) : St := ⟨[.undef, t1, t2, .undef, .undef, .undef, t6, .undef, .undef, .undef, .undef, .undef, .undef, .undef, .undef, .undef, .undef, .undef, .undef, .undef, .undef, .undef, .undef, .undef, .undef, .undef, .undef, .undef, .undef, .undef, .undef, .undef, .undef, .undef, .undef, .undef, .undef, .undef, .undef, .undef, .undef, .undef, .undef], h⟩
def i_ref04_Deep_b0 : IR :=
  (.seq
   (.seq
    (.reg [] [
      ⟨(some 27), .mv (.t 6), none, []⟩,
      ⟨(some 28), .fa 4 (.t 2), none, []⟩,
      ⟨(some 29), .load false 1 (.t 28), none, []⟩,
      ⟨(some 30), .len false (.t 29), none, []⟩,
      ⟨(some 31), .bin .plain .lss (.t 27) (.t 30), none, []⟩])
    (.cond (.t 31)
     .skip
     (.exit 0 i_ref04_Deep_j0)))
   (.seq
    (.block 1 i_ref04_Deep_j1
     (.seq
      (.reg [] [
        ⟨(some 34), .fa 4 (.t 2), none, []⟩,
        ⟨(some 35), .load false 1 (.t 34), none, []⟩,
        ⟨(some 36), .mv (.t 6), none, []⟩,
        ⟨(some 37), .ia 5 (.t 35) (.t 36), none, []⟩,
        ⟨(some 38), .load true 5 (.t 37), none, []⟩,
        ⟨(some 39), .mv (.t 1), none, []⟩,
        ⟨(some 40), .bin .plain .sub (.t 39) (.k (.int .i64 1)), none, []⟩,
        ⟨(some 41), .qcall n_ref04_Deep [(.t 38), (.t 40)] [], none, []⟩,
        ⟨(some 7), .mv (.t 41), none, []⟩])
      (.seq
       (.reg [] [
         ⟨(some 42), .mv (.t 7), none, []⟩])
       (.cond (.t 42)
        (.seq
         (.reg [] [
           ⟨(some 4), .mv (.k (.bool true)), none, []⟩])
         (.ret i_ref04_Deep_r))
        .skip))))
    (.reg [] [
      ⟨(some 32), .mv (.t 6), none, []⟩,
      ⟨(some 33), .bin .plain .add (.t 32) (.k (.int .i64 1)), none, []⟩,
      ⟨(some 6), .mv (.t 33), none, []⟩])))

abbrev s_ref04_Deep_J0 (h : Heap) : St := ⟨[.undef, .undef, .undef, .undef, .undef, .undef, .undef, .undef, .undef, .undef, .undef, .undef, .undef, .undef, .undef, .undef, .undef, .undef, .undef, .undef, .undef, .undef, .undef, .undef, .undef, .undef, .undef, .undef, .undef, .undef, .undef, .undef, .undef, .undef, .undef, .undef, .undef, .undef, .undef, .undef, .undef, .undef, .undef], h⟩
/-- heartwood/heartwoodref04.Deep -/
def i_ref04_Deep : Ev.Fn := ⟨2, 43, 1,
  (.seq
   (.reg [] [
     ⟨(some 2), .box 0 5 (.t 0), none, []⟩,
     ⟨(some 4), .mv (.k (.bool false)), none, []⟩])
   (.seq
    (.reg [] [
      ⟨(some 8), .fa 0 (.t 2), none, []⟩,
      ⟨(some 9), .load false 1 (.t 8), none, []⟩,
      ⟨(some 10), .bin .plain .eql (.t 9) (.k (.int .i64 1)), none, []⟩,
      ⟨(some 11), .mv (.t 10), none, []⟩,
      ⟨(some 12), .fa 0 (.t 2), (some (11, false)), []⟩,
      ⟨(some 13), .load false 1 (.t 12), (some (11, false)), []⟩,
      ⟨(some 14), .bin .plain .eql (.t 13) (.k (.int .i64 2)), (some (11, false)), []⟩,
      ⟨(some 15), .pick (.t 11) (.k (.bool true)) (.t 14), none, []⟩,
      ⟨(some 16), .mv (.t 15), none, []⟩,
      ⟨(some 17), .fa 4 (.t 2), (some (16, false)), []⟩,
      ⟨(some 18), .load false 1 (.t 17), (some (16, false)), []⟩,
      ⟨(some 19), .len false (.t 18), (some (16, false)), []⟩,
      ⟨(some 20), .bin .plain .gtr (.t 19) (.k (.int .i64 0)), (some (16, false)), []⟩,
      ⟨(some 21), .pick (.t 16) (.k (.bool true)) (.t 20), none, []⟩,
      ⟨(some 5), .mv (.t 21), none, []⟩])
    (.seq
     (.seq
      (.reg [] [
        ⟨(some 22), .mv (.t 5), none, []⟩,
        ⟨(some 23), .mv (.t 22), none, []⟩,
        ⟨(some 24), .mv (.t 1), (some (23, true)), []⟩,
        ⟨(some 25), .bin .plain .eql (.t 24) (.k (.int .i64 0)), (some (23, true)), []⟩,
        ⟨(some 26), .pick (.t 23) (.t 25) (.k (.bool false)), none, []⟩])
      (.cond (.t 26)
       (.seq
        (.reg [] [
          ⟨(some 4), .mv (.k (.bool true)), none, []⟩])
        (.ret i_ref04_Deep_r))
       .skip))
     (.seq
      (.seq
       (.reg [] [
         ⟨(some 6), .mv (.k (.int .i64 0)), none, []⟩])
       (.block 0 i_ref04_Deep_j0
        (.loop i_ref04_Deep_k0 i_ref04_Deep_b0)))
      (.seq
       (.reg [] [
         ⟨(some 4), .mv (.k (.bool false)), none, []⟩])
       (.ret i_ref04_Deep_r)))))),
  [.tmp 4], [], false, []⟩

def i_ref04_Formed_r : List Bool := [false, false, true, false, false, false, false, false, false, false, false, false, false, false, false, false, false, false, false, false, false, false, false, false, false, false, false, false, false, false, false, false, false, false, false, false, false, false, false, false, false, false, false, false, false, false, false, false, false, false, false, false, false, false, false, false, false, false, false, false, false, false, false, false, false, false, false, false, false, false, false, false, false, false, false, false, false, false, false, false, false, false, false, false, false, false, false, false, false, false, false, false, false, false]
def i_ref04_Formed_j0 : List Bool := [false, true, false, false, false, false, true, true, false, false, false, false, false, false, false, false, false, false, false, false, false, false, false, false, false, false, false, false, false, false, false, false, false, false, false, false, false, false, false, false, false, false, false, false, false, false, false, false, false, false, false, false, false, false, false, false, false, false, false, false, false, false, false, false, false, false, false, false, false, false, false, false, false, false, false, false, false, false, false, false, false, false, false, false, false, false, false, false, false, false, false, false, false, false]
def i_ref04_Formed_j2 : List Bool := [false, true, false, false, false, false, true, true, true, false, false, false, false, false, false, false, false, false, false, false, false, false, false, false, false, false, false, false, false, false, false, false, false, false, false, false, false, false, false, false, false, false, false, false, false, false, false, false, false, false, false, false, false, false, false, false, false, false, false, false, false, false, false, false, false, false, false, false, false, false, false, false, false, false, false, false, false, false, false, false, false, false, false, false, false, false, false, false, false, false, false, false, false, false]
def i_ref04_Formed_k0 : List Bool := [false, true, false, false, false, false, true, true, true, false, false, false, false, false, false, false, false, false, false, false, false, false, false, false, false, false, false, false, false, false, false, false, false, false, false, false, false, false, false, false, false, false, false, false, false, false, false, false, false, false, false, false, false, false, false, false, false, false, false, false, false, false, false, false, false, false, false, false, false, false, false, false, false, false, false, false, false, false, false, false, false, false, false, false, false, false, false, false, false, false, false, false, false, false]
def i_ref04_Formed_j1 : List Bool := [false, false, false, false, false, false, false, true, false, false, false, false, false, false, false, false, false, false, false, false, false, false, false, false, false, false, false, false, false, false, false, false, false, false, false, false, false, false, false, false, false, false, false, false, false, false, false, false, false, false, false, false, false, false, false, false, false, false, false, false, false, false, false, false, false, false, false, false, false, false, false, false, false, false, false, false, false, false, false, false, false, false, false, false, false, false, false, false, false, false, false, false, false, false]
abbrev s_ref04_Formed_R (t2 : AV) (h : Heap) : St := ⟨[.undef, .undef, t2, .undef, .undef, .undef, .undef, .undef, .undef, .undef, .undef, .undef, .undef, .undef, .undef, .undef, .undef, .undef, .undef, .undef, .undef, .undef, .undef, .undef, .undef, .undef, .undef, .undef, .undef, .undef, .undef, .undef, .undef, .undef, .undef, .undef, .undef, .undef, .undef, .undef, .undef, .undef, .undef, .undef, .undef, .undef, .undef, .undef, .undef, .undef, .undef, .undef, .undef, .undef, .undef, .undef, .undef, .undef, .undef, .undef, .undef, .undef, .undef, .undef, .undef, .undef, .undef, .undef, .undef, .undef, .undef, .undef, .undef, .undef, .undef, .undef, .undef, .undef, .undef, .undef, .undef, .undef, .undef, .undef, .undef, .undef, .undef, .undef, .undef, .undef, .undef, .undef, .undef, .undef], h⟩
abbrev s_ref04_Formed_K0 (t1 t6 t7 t8 : AV) (h : Heap) : St := ⟨[.undef, t1, .undef, .undef, .undef, .undef, t6, t7, t8, .undef, .undef, .undef, .undef, .undef, .undef, .undef, .undef, .undef, .undef, .undef, .undef, .undef, .undef, .undef, .undef, .undef, .undef, .undef, .undef, .undef, .undef, .undef, .undef, .undef, .undef, .undef, .undef, .undef, .undef, .undef, .undef, .undef, .undef, .undef, .undef, .undef, .undef, .undef, .undef, .undef, .undef, .undef, .undef, .undef, .undef, .undef, .undef, .undef, .undef, .undef, .undef, .undef, .undef, .undef, .undef, .undef, .undef, .undef, .undef, .undef, .undef, .undef, .undef, .undef, .undef, .undef, .undef, .undef, .undef, .undef, .undef, .undef, .undef, .undef, .undef, .undef, .undef, .undef, .undef, .undef, .undef, .undef, .undef, .undef], h⟩
def i_ref04_Formed_b0 : IR :=
  (.seq
   (.seq
    (.reg [] [
      ⟨(some 79), .mv (.t 8), none, []⟩,
      ⟨(some 80), .mv (.t 6), none, []⟩,
      ⟨(some 81), .bin .plain .lss (.t 79) (.t 80), none, []⟩,
      ⟨(some 82), .mv (.t 81), none, []⟩,
      ⟨(some 83), .mv (.t 7), (some (82, true)), []⟩,
      ⟨(some 84), .pick (.t 82) (.t 83) (.k (.bool false)), none, []⟩])
    (.cond (.t 84)
     .skip
     (.exit 1 i_ref04_Formed_j1)))
   (.seq
    (.block 2 i_ref04_Formed_j2
     (.reg [] [
       ⟨(some 87), .fa 4 (.t 1), none, []⟩,
       ⟨(some 88), .load false 1 (.t 87), none, []⟩,
       ⟨(some 89), .mv (.t 8), none, []⟩,
       ⟨(some 90), .ia 5 (.t 88) (.t 89), none, []⟩,
       ⟨(some 91), .load true 5 (.t 90), none, []⟩,
       ⟨(some 92), .qcall n_ref04_Formed [(.t 91)] [], none, []⟩,
       ⟨(some 7), .mv (.t 92), none, []⟩]))
    (.reg [] [
      ⟨(some 85), .mv (.t 8), none, []⟩,
      ⟨(some 86), .bin .plain .add (.t 85) (.k (.int .i64 1)), none, []⟩,
      ⟨(some 8), .mv (.t 86), none, []⟩])))

abbrev s_ref04_Formed_J1 (t7 : AV) (h : Heap) : St := ⟨[.undef, .undef, .undef, .undef, .undef, .undef, .undef, t7, .undef, .undef, .undef, .undef, .undef, .undef, .undef, .undef, .undef, .undef, .undef, .undef, .undef, .undef, .undef, .undef, .undef, .undef, .undef, .undef, .undef, .undef, .undef, .undef, .undef, .undef, .undef, .undef, .undef, .undef, .undef, .undef, .undef, .undef, .undef, .undef, .undef, .undef, .undef, .undef, .undef, .undef, .undef, .undef, .undef, .undef, .undef, .undef, .undef, .undef, .undef, .undef, .undef, .undef, .undef, .undef, .undef, .undef, .undef, .undef, .undef, .undef, .undef, .undef, .undef, .undef, .undef, .undef, .undef, .undef, .undef, .undef, .undef, .undef, .undef, .undef, .undef, .undef, .undef, .undef, .undef, .undef, .undef, .undef, .undef, .undef], h⟩
/-- heartwood/heartwoodref04.Formed -/
def i_ref04_Formed : Ev.Fn := ⟨1, 94, 1,
  (.seq
   (.reg [] [
     ⟨(some 1), .box 0 5 (.t 0), none, []⟩,
     ⟨(some 2), .mv (.k (.bool false)), none, []⟩])
   (.seq
    (.reg [] [
      ⟨(some 9), .fa 1 (.t 1), none, []⟩,
      ⟨(some 10), .load false 1 (.t 9), none, []⟩,
      ⟨(some 11), .len false (.t 10), none, []⟩,
      ⟨(some 3), .mv (.t 11), none, []⟩])
    (.seq
     (.reg [] [
       ⟨(some 12), .fa 2 (.t 1), none, []⟩,
       ⟨(some 13), .load false 1 (.t 12), none, []⟩,
       ⟨(some 14), .len false (.t 13), none, []⟩,
       ⟨(some 4), .mv (.t 14), none, []⟩])
     (.seq
      (.reg [] [
        ⟨(some 15), .fa 3 (.t 1), none, []⟩,
        ⟨(some 16), .load false 1 (.t 15), none, []⟩,
        ⟨(some 17), .len false (.t 16), none, []⟩,
        ⟨(some 5), .mv (.t 17), none, []⟩])
      (.seq
       (.reg [] [
         ⟨(some 18), .fa 4 (.t 1), none, []⟩,
         ⟨(some 19), .load false 1 (.t 18), none, []⟩,
         ⟨(some 20), .len false (.t 19), none, []⟩,
         ⟨(some 6), .mv (.t 20), none, []⟩])
       (.seq
        (.reg [] [
          ⟨(some 7), .mv (.k (.bool false)), none, []⟩])
        (.seq
         (.seq
          (.reg [] [
            ⟨(some 21), .fa 0 (.t 1), none, []⟩,
            ⟨(some 22), .load false 1 (.t 21), none, []⟩])
          (.block 0 i_ref04_Formed_j0
           (.seq
            (.reg [] [
              ⟨(some 24), .bin .plain .eql (.t 22) (.k (.int .i64 0)), none, []⟩,
              ⟨(some 23), .mv (.t 24), none, []⟩])
            (.cond (.t 23)
             (.reg [] [
               ⟨(some 25), .mv (.t 3), none, []⟩,
               ⟨(some 26), .bin .plain .eql (.t 25) (.k (.int .i64 0)), none, []⟩,
               ⟨(some 27), .mv (.t 26), none, []⟩,
               ⟨(some 28), .mv (.t 4), (some (27, true)), []⟩,
               ⟨(some 29), .bin .plain .eql (.t 28) (.k (.int .i64 0)), (some (27, true)), []⟩,
               ⟨(some 30), .pick (.t 27) (.t 29) (.k (.bool false)), none, []⟩,
               ⟨(some 31), .mv (.t 30), none, []⟩,
               ⟨(some 32), .mv (.t 5), (some (31, true)), []⟩,
               ⟨(some 33), .bin .plain .eql (.t 32) (.k (.int .i64 0)), (some (31, true)), []⟩,
               ⟨(some 34), .pick (.t 31) (.t 33) (.k (.bool false)), none, []⟩,
               ⟨(some 35), .mv (.t 34), none, []⟩,
               ⟨(some 36), .mv (.t 6), (some (35, true)), []⟩,
               ⟨(some 37), .bin .plain .eql (.t 36) (.k (.int .i64 0)), (some (35, true)), []⟩,
               ⟨(some 38), .pick (.t 35) (.t 37) (.k (.bool false)), none, []⟩,
               ⟨(some 7), .mv (.t 38), none, []⟩])
             (.seq
              (.reg [] [
                ⟨(some 40), .bin .plain .eql (.t 22) (.k (.int .i64 1)), none, []⟩,
                ⟨(some 39), .mv (.t 40), none, []⟩])
              (.cond (.t 39)
               (.reg [] [
                 ⟨(some 41), .mv (.t 3), none, []⟩,
                 ⟨(some 42), .bin .plain .leq (.t 41) (.k (.int .i64 80)), none, []⟩,
                 ⟨(some 43), .mv (.t 42), none, []⟩,
                 ⟨(some 44), .mv (.t 4), (some (43, true)), []⟩,
                 ⟨(some 45), .bin .plain .leq (.t 44) (.k (.int .i64 1024)), (some (43, true)), []⟩,
                 ⟨(some 46), .pick (.t 43) (.t 45) (.k (.bool false)), none, []⟩,
                 ⟨(some 47), .mv (.t 46), none, []⟩,
                 ⟨(some 48), .mv (.t 5), (some (47, true)), []⟩,
                 ⟨(some 49), .bin .plain .eql (.t 48) (.k (.int .i64 0)), (some (47, true)), []⟩,
                 ⟨(some 50), .pick (.t 47) (.t 49) (.k (.bool false)), none, []⟩,
                 ⟨(some 51), .mv (.t 50), none, []⟩,
                 ⟨(some 52), .mv (.t 6), (some (51, true)), []⟩,
                 ⟨(some 53), .bin .plain .eql (.t 52) (.k (.int .i64 2)), (some (51, true)), []⟩,
                 ⟨(some 54), .pick (.t 51) (.t 53) (.k (.bool false)), none, []⟩,
                 ⟨(some 7), .mv (.t 54), none, []⟩])
               (.seq
                (.reg [] [
                  ⟨(some 56), .bin .plain .eql (.t 22) (.k (.int .i64 2)), none, []⟩,
                  ⟨(some 55), .mv (.t 56), none, []⟩])
                (.cond (.t 55)
                 (.reg [] [
                   ⟨(some 57), .mv (.t 3), none, []⟩,
                   ⟨(some 58), .bin .plain .leq (.t 57) (.k (.int .i64 80)), none, []⟩,
                   ⟨(some 59), .mv (.t 58), none, []⟩,
                   ⟨(some 60), .mv (.t 4), (some (59, true)), []⟩,
                   ⟨(some 61), .bin .plain .eql (.t 60) (.k (.int .i64 0)), (some (59, true)), []⟩,
                   ⟨(some 62), .pick (.t 59) (.t 61) (.k (.bool false)), none, []⟩,
                   ⟨(some 63), .mv (.t 62), none, []⟩,
                   ⟨(some 64), .mv (.t 6), (some (63, true)), []⟩,
                   ⟨(some 65), .bin .plain .eql (.t 64) (.k (.int .i64 2)), (some (63, true)), []⟩,
                   ⟨(some 66), .pick (.t 63) (.t 65) (.k (.bool false)), none, []⟩,
                   ⟨(some 7), .mv (.t 66), none, []⟩])
                 (.seq
                  (.reg [] [
                    ⟨(some 68), .bin .plain .eql (.t 22) (.k (.int .i64 3)), none, []⟩,
                    ⟨(some 67), .mv (.t 68), none, []⟩])
                  (.cond (.t 67)
                   (.reg [] [
                     ⟨(some 69), .mv (.t 3), none, []⟩,
                     ⟨(some 70), .bin .plain .eql (.t 69) (.k (.int .i64 0)), none, []⟩,
                     ⟨(some 71), .mv (.t 70), none, []⟩,
                     ⟨(some 72), .mv (.t 4), (some (71, true)), []⟩,
                     ⟨(some 73), .bin .plain .eql (.t 72) (.k (.int .i64 0)), (some (71, true)), []⟩,
                     ⟨(some 74), .pick (.t 71) (.t 73) (.k (.bool false)), none, []⟩,
                     ⟨(some 75), .mv (.t 74), none, []⟩,
                     ⟨(some 76), .mv (.t 6), (some (75, true)), []⟩,
                     ⟨(some 77), .bin .plain .eql (.t 76) (.k (.int .i64 0)), (some (75, true)), []⟩,
                     ⟨(some 78), .pick (.t 75) (.t 77) (.k (.bool false)), none, []⟩,
                     ⟨(some 7), .mv (.t 78), none, []⟩])
                   .skip))))))))))
         (.seq
          (.seq
           (.reg [] [
             ⟨(some 8), .mv (.k (.int .i64 0)), none, []⟩])
           (.block 1 i_ref04_Formed_j1
            (.loop i_ref04_Formed_k0 i_ref04_Formed_b0)))
          (.seq
           (.reg [] [
             ⟨(some 93), .mv (.t 7), none, []⟩,
             ⟨(some 2), .mv (.t 93), none, []⟩])
           (.ret i_ref04_Formed_r)))))))))),
  [.tmp 2], [], false, []⟩

def i_ref04_Full_r : List Bool := [false, false, true, false, false, false, false, false, false, false, false, false, false, false, false, false, false, false, false, false, false, false, false]
def i_ref04_Full_j1 : List Bool := [false, true, false, true, false, false, false, false, false, false, false, false, false, false, false, false, false, false, false, false, false, false, false]
def i_ref04_Full_k0 : List Bool := [false, true, false, true, false, false, false, false, false, false, false, false, false, false, false, false, false, false, false, false, false, false, false]
def i_ref04_Full_j0 : List Bool := [false, false, false, false, false, false, false, false, false, false, false, false, false, false, false, false, false, false, false, false, false, false, false]
abbrev s_ref04_Full_R (t2 : AV) (h : Heap) : St := ⟨[.undef, .undef, t2, .undef, .undef, .undef, .undef, .undef, .undef, .undef, .undef, .undef, .undef, .undef, .undef, .undef, .undef, .undef, .undef, .undef, .undef, .undef, .undef], h⟩
abbrev s_ref04_Full_K0 (t1 t3 : AV) (h : Heap) : St := ⟨[.undef, t1, .undef, t3, .undef, .undef, .undef, .undef, .undef, .undef, .undef, .undef, .undef, .undef, .undef, .undef, .undef, .undef, .undef, .undef, .undef, .undef, .undef], h⟩
def i_ref04_Full_b0 : IR :=
  (.seq
   (.seq
    (.reg [] [
      ⟨(some 8), .mv (.t 3), none, []⟩,
      ⟨(some 9), .fa 4 (.t 1), none, []⟩,
      ⟨(some 10), .load false 1 (.t 9), none, []⟩,
      ⟨(some 11), .len false (.t 10), none, []⟩,
      ⟨(some 12), .bin .plain .lss (.t 8) (.t 11), none, []⟩])
    (.cond (.t 12)
     .skip
     (.exit 0 i_ref04_Full_j0)))
   (.seq
    (.block 1 i_ref04_Full_j1
     (.seq
      (.reg [] [
        ⟨(some 15), .fa 4 (.t 1), none, []⟩,
        ⟨(some 16), .load false 1 (.t 15), none, []⟩,
        ⟨(some 17), .mv (.t 3), none, []⟩,
        ⟨(some 18), .ia 5 (.t 16) (.t 17), none, []⟩,
        ⟨(some 19), .load true 5 (.t 18), none, []⟩,
        ⟨(some 20), .qcall n_ref04_Full [(.t 19)] [], none, []⟩,
        ⟨(some 4), .mv (.t 20), none, []⟩])
      (.seq
       (.reg [] [
         ⟨(some 21), .mv (.t 4), none, []⟩,
         ⟨(some 22), .un .not (.t 21), none, []⟩])
       (.cond (.t 22)
        (.seq
         (.reg [] [
           ⟨(some 2), .mv (.k (.bool false)), none, []⟩])
         (.ret i_ref04_Full_r))
        .skip))))
    (.reg [] [
      ⟨(some 13), .mv (.t 3), none, []⟩,
      ⟨(some 14), .bin .plain .add (.t 13) (.k (.int .i64 1)), none, []⟩,
      ⟨(some 3), .mv (.t 14), none, []⟩])))

abbrev s_ref04_Full_J0 (h : Heap) : St := ⟨[.undef, .undef, .undef, .undef, .undef, .undef, .undef, .undef, .undef, .undef, .undef, .undef, .undef, .undef, .undef, .undef, .undef, .undef, .undef, .undef, .undef, .undef, .undef], h⟩
/-- heartwood/heartwoodref04.Full -/
def i_ref04_Full : Ev.Fn := ⟨1, 23, 1,
  (.seq
   (.reg [] [
     ⟨(some 1), .box 0 5 (.t 0), none, []⟩,
     ⟨(some 2), .mv (.k (.bool false)), none, []⟩])
   (.seq
    (.seq
     (.reg [] [
       ⟨(some 5), .fa 0 (.t 1), none, []⟩,
       ⟨(some 6), .load false 1 (.t 5), none, []⟩,
       ⟨(some 7), .bin .plain .gtr (.t 6) (.k (.int .i64 1)), none, []⟩])
     (.cond (.t 7)
      (.seq
       (.reg [] [
         ⟨(some 2), .mv (.k (.bool false)), none, []⟩])
       (.ret i_ref04_Full_r))
      .skip))
    (.seq
     (.seq
      (.reg [] [
        ⟨(some 3), .mv (.k (.int .i64 0)), none, []⟩])
      (.block 0 i_ref04_Full_j0
       (.loop i_ref04_Full_k0 i_ref04_Full_b0)))
     (.seq
      (.reg [] [
        ⟨(some 2), .mv (.k (.bool true)), none, []⟩])
      (.ret i_ref04_Full_r))))),
  [.tmp 2], [], false, []⟩

def i_ref04_List_r : List Bool := [false, false, true, false, false, false, false, false, false, false, false, false, false, false, false, false, false, false, false, false, false, false, false, false, false, false]
/-- heartwood/heartwoodref04.List -/
def i_ref04_List : Ev.Fn := ⟨1, 26, 2,
  (.seq
   (.reg [] [
     ⟨(some 1), .box 0 5 (.t 0), none, []⟩,
     ⟨(some 2), .cn (.k (.slice none 0 0)), none, []⟩])
   (.seq
    (.seq
     (.reg [] [
       ⟨(some 4), .fa 4 (.t 1), none, []⟩,
       ⟨(some 5), .load false 1 (.t 4), none, []⟩,
       ⟨(some 6), .len false (.t 5), none, []⟩,
       ⟨(some 7), .bin .plain .eql (.t 6) (.k (.int .i64 0)), none, []⟩])
     (.cond (.t 7)
      (.seq
       (.reg [] [
         ⟨(some 2), .cn (.k (.slice none 0 0)), none, []⟩])
       (.ret i_ref04_List_r))
      .skip))
    (.seq
     (.reg [] [
       ⟨(some 8), .lit 1 ty_api_Tree 5 0 [(.int .i64 0), (.slice none 0 0), (.slice none 0 0), (.slice none 0 0), (.slice none 0 0)] [], none, []⟩,
       ⟨(some 9), .fa 4 (.t 1), none, []⟩,
       ⟨(some 10), .load false 1 (.t 9), none, []⟩,
       ⟨(some 11), .ia 5 (.t 10) (.k (.int .i64 0)), none, []⟩,
       ⟨(some 12), .load true 5 (.t 11), none, []⟩,
       ⟨(some 13), .qcall n_ref04_List [(.t 12)] [], none, []⟩,
       ⟨(some 14), .app 1 ty_api_Tree 5 104 (.t 8) (.t 13), none, []⟩,
       ⟨(some 3), .mv (.t 14), none, []⟩])
     (.seq
      (.reg [] [
        ⟨(some 15), .mv (.t 3), none, []⟩,
        ⟨(some 16), .load true 5 (.t 1), none, []⟩,
        ⟨(some 17), .litd 5 1 [(.int .i64 0), (.slice none 0 0), (.slice none 0 0), (.slice none 0 0), (.slice none 0 0)] [(0, (.t 16))], none, []⟩,
        ⟨(some 18), .app 1 ty_api_Tree 5 104 (.t 15) (.t 17), none, []⟩,
        ⟨(some 3), .mv (.t 18), none, []⟩])
      (.seq
       (.reg [] [
         ⟨(some 19), .mv (.t 3), none, []⟩,
         ⟨(some 20), .fa 4 (.t 1), none, []⟩,
         ⟨(some 21), .load false 1 (.t 20), none, []⟩,
         ⟨(some 22), .ia 5 (.t 21) (.k (.int .i64 1)), none, []⟩,
         ⟨(some 23), .load true 5 (.t 22), none, []⟩,
         ⟨(some 24), .qcall n_ref04_List [(.t 23)] [], none, []⟩,
         ⟨(some 25), .app 1 ty_api_Tree 5 104 (.t 19) (.t 24), none, []⟩,
         ⟨(some 2), .cn (.t 25), none, [25]⟩])
       (.ret i_ref04_List_r)))))),
  [.tmp 2], [], false, []⟩

def i_ref04_Depth_r : List Bool := [false, false, true, false, false, false, false, false, false, false, false, false, false, false, false, false, false, false, false, false, false, false, false, false, false, false]
/-- heartwood/heartwoodref04.Depth -/
def i_ref04_Depth : Ev.Fn := ⟨1, 26, 1,
  (.seq
   (.reg [] [
     ⟨(some 1), .box 0 5 (.t 0), none, []⟩,
     ⟨(some 2), .mv (.k (.int .i64 0)), none, []⟩])
   (.seq
    (.seq
     (.reg [] [
       ⟨(some 5), .fa 4 (.t 1), none, []⟩,
       ⟨(some 6), .load false 1 (.t 5), none, []⟩,
       ⟨(some 7), .len false (.t 6), none, []⟩,
       ⟨(some 8), .bin .plain .eql (.t 7) (.k (.int .i64 0)), none, []⟩])
     (.cond (.t 8)
      (.seq
       (.reg [] [
         ⟨(some 2), .mv (.k (.int .i64 0)), none, []⟩])
       (.ret i_ref04_Depth_r))
      .skip))
    (.seq
     (.reg [] [
       ⟨(some 9), .fa 4 (.t 1), none, []⟩,
       ⟨(some 10), .load false 1 (.t 9), none, []⟩,
       ⟨(some 11), .ia 5 (.t 10) (.k (.int .i64 0)), none, []⟩,
       ⟨(some 12), .load true 5 (.t 11), none, []⟩,
       ⟨(some 13), .qcall n_ref04_Depth [(.t 12)] [], none, []⟩,
       ⟨(some 3), .mv (.t 13), none, []⟩])
     (.seq
      (.reg [] [
        ⟨(some 14), .fa 4 (.t 1), none, []⟩,
        ⟨(some 15), .load false 1 (.t 14), none, []⟩,
        ⟨(some 16), .ia 5 (.t 15) (.k (.int .i64 1)), none, []⟩,
        ⟨(some 17), .load true 5 (.t 16), none, []⟩,
        ⟨(some 18), .qcall n_ref04_Depth [(.t 17)] [], none, []⟩,
        ⟨(some 4), .mv (.t 18), none, []⟩])
      (.seq
       (.seq
        (.reg [] [
          ⟨(some 19), .mv (.t 3), none, []⟩,
          ⟨(some 20), .mv (.t 4), none, []⟩,
          ⟨(some 21), .bin .plain .gtr (.t 19) (.t 20), none, []⟩])
        (.cond (.t 21)
         (.seq
          (.reg [] [
            ⟨(some 22), .mv (.t 3), none, []⟩,
            ⟨(some 23), .bin .plain .add (.t 22) (.k (.int .i64 1)), none, []⟩,
            ⟨(some 2), .mv (.t 23), none, []⟩])
          (.ret i_ref04_Depth_r))
         .skip))
       (.seq
        (.reg [] [
          ⟨(some 24), .mv (.t 4), none, []⟩,
          ⟨(some 25), .bin .plain .add (.t 24) (.k (.int .i64 1)), none, []⟩,
          ⟨(some 2), .mv (.t 25), none, []⟩])
        (.ret i_ref04_Depth_r))))))),
  [.tmp 2], [], false, []⟩

def i_ref06_Range_r : List Bool := [false, false, false, false, true, false, false, false, false, false, false, false, false, false, false, false, false, false, false, false, false, false, false, false, false, false, false, false, false, false, false, false, false, false, false, false, false, false, false, false]
def i_ref06_Range_j1 : List Bool := [false, false, false, true, false, true, true, true, false, false, false, false, false, false, false, false, false, false, false, false, false, false, false, false, false, false, false, false, false, false, false, false, false, false, false, false, false, false, false, false]
def i_ref06_Range_k0 : List Bool := [false, false, false, true, false, true, true, true, false, false, false, false, false, false, false, false, false, false, false, false, false, false, false, false, false, false, false, false, false, false, false, false, false, false, false, false, false, false, false, false]
def i_ref06_Range_j0 : List Bool := [false, false, false, false, false, true, false, false, false, false, false, false, false, false, false, false, false, false, false, false, false, false, false, false, false, false, false, false, false, false, false, false, false, false, false, false, false, false, false, false]
abbrev s_ref06_Range_R (t4 : AV) (h : Heap) : St := ⟨[.undef, .undef, .undef, .undef, t4, .undef, .undef, .undef, .undef, .undef, .undef, .undef, .undef, .undef, .undef, .undef, .undef, .undef, .undef, .undef, .undef, .undef, .undef, .undef, .undef, .undef, .undef, .undef, .undef, .undef, .undef, .undef, .undef, .undef, .undef, .undef, .undef, .undef, .undef, .undef], h⟩
abbrev s_ref06_Range_K0 (t3 t5 t6 t7 : AV) (h : Heap) : St := ⟨[.undef, .undef, .undef, t3, .undef, t5, t6, t7, .undef, .undef, .undef, .undef, .undef, .undef, .undef, .undef, .undef, .undef, .undef, .undef, .undef, .undef, .undef, .undef, .undef, .undef, .undef, .undef, .undef, .undef, .undef, .undef, .undef, .undef, .undef, .undef, .undef, .undef, .undef, .undef], h⟩
def i_ref06_Range_b0 : IR :=
  (.seq
   (.seq
    (.reg [] [
      ⟨(some 11), .mv (.t 7), none, []⟩,
      ⟨(some 12), .cn (.t 6), none, []⟩,
      ⟨(some 13), .len false (.t 12), none, []⟩,
      ⟨(some 14), .bin .plain .lss (.t 11) (.t 13), none, []⟩])
    (.cond (.t 14)
     .skip
     (.exit 0 i_ref06_Range_j0)))
   (.seq
    (.block 1 i_ref06_Range_j1
     (.seq
      (.reg [] [
        ⟨(some 17), .load true 3 (.t 3), none, []⟩,
        ⟨(some 18), .cn (.t 6), none, []⟩,
        ⟨(some 19), .mv (.t 7), none, []⟩,
        ⟨(some 20), .ia 5 (.t 18) (.t 19), none, []⟩,
        ⟨(some 21), .fa 1 (.t 20), none, []⟩,
        ⟨(some 22), .load false 1 (.t 21), none, []⟩,
        ⟨(some 23), .qcall n_ref06_In [(.t 17), (.t 22)] [], none, []⟩,
        ⟨(some 8), .mv (.t 23), none, []⟩])
      (.seq
       (.reg [] [
         ⟨(some 24), .mv (.t 8), none, []⟩])
       (.cond (.t 24)
        (.reg [] [
          ⟨(some 25), .mv (.t 5), none, []⟩,
          ⟨(some 26), .cn (.t 6), none, []⟩,
          ⟨(some 27), .mv (.t 7), none, []⟩,
          ⟨(some 28), .ia 5 (.t 26) (.t 27), none, []⟩,
          ⟨(some 29), .fa 1 (.t 28), none, []⟩,
          ⟨(some 30), .load false 1 (.t 29), none, []⟩,
          ⟨(some 31), .cn (.t 6), none, []⟩,
          ⟨(some 32), .mv (.t 7), none, []⟩,
          ⟨(some 33), .ia 5 (.t 31) (.t 32), none, []⟩,
          ⟨(some 34), .fa 2 (.t 33), none, []⟩,
          ⟨(some 35), .load false 1 (.t 34), none, []⟩,
          ⟨(some 36), .build [(.slice none 0 0), (.slice none 0 0)] [(0, 1, (.t 30)), (1, 1, (.t 35))], none, []⟩,
          ⟨(some 37), .litd 2 1 [(.slice none 0 0), (.slice none 0 0)] [(0, (.t 36))], none, []⟩,
          ⟨(some 38), .app 2 ty_api_Pair 2 48 (.t 25) (.t 37), none, []⟩,
          ⟨(some 5), .mv (.t 38), none, []⟩])
        .skip))))
    (.reg [] [
      ⟨(some 15), .mv (.t 7), none, []⟩,
      ⟨(some 16), .bin .plain .add (.t 15) (.k (.int .i64 1)), none, []⟩,
      ⟨(some 7), .mv (.t 16), none, []⟩])))

abbrev s_ref06_Range_J0 (t5 : AV) (h : Heap) : St := ⟨[.undef, .undef, .undef, .undef, .undef, t5, .undef, .undef, .undef, .undef, .undef, .undef, .undef, .undef, .undef, .undef, .undef, .undef, .undef, .undef, .undef, .undef, .undef, .undef, .undef, .undef, .undef, .undef, .undef, .undef, .undef, .undef, .undef, .undef, .undef, .undef, .undef, .undef, .undef, .undef], h⟩
/-- heartwood/heartwoodref06.Range -/
def i_ref06_Range : Ev.Fn := ⟨2, 40, 3,
  (.seq
   (.reg [] [
     ⟨(some 2), .box 0 5 (.t 0), none, []⟩,
     ⟨(some 3), .box 1 3 (.t 1), none, []⟩,
     ⟨(some 4), .cn (.k (.slice none 0 0)), none, []⟩])
   (.seq
    (.reg [] [
      ⟨(some 5), .mv (.k (.slice none 0 0)), none, []⟩])
    (.seq
     (.reg [] [
       ⟨(some 9), .load true 5 (.t 2), none, []⟩,
       ⟨(some 10), .qcall n_ref04_List [(.t 9)] [], none, []⟩,
       ⟨(some 6), .cn (.t 10), none, []⟩])
     (.seq
      (.seq
       (.reg [] [
         ⟨(some 7), .mv (.k (.int .i64 0)), none, []⟩])
       (.block 0 i_ref06_Range_j0
        (.loop i_ref06_Range_k0 i_ref06_Range_b0)))
      (.seq
       (.reg [] [
         ⟨(some 39), .cn (.t 5), none, [5]⟩,
         ⟨(some 4), .cn (.t 39), none, [39]⟩])
       (.ret i_ref06_Range_r)))))),
  [.tmp 4], [], false, []⟩

def i_ref06_In_r : List Bool := [false, false, false, false, true, false, false, false, false, false, false, false, false, false, false, false, false, false, false, false, false, false, false]
/-- heartwood/heartwoodref06.In -/
def i_ref06_In : Ev.Fn := ⟨2, 23, 1,
  (.seq
   (.reg [] [
     ⟨(some 2), .box 0 3 (.t 0), none, []⟩,
     ⟨(some 4), .mv (.k (.bool false)), none, []⟩])
   (.seq
    (.reg [] [
      ⟨(some 5), .fa 0 (.t 2), none, []⟩,
      ⟨(some 6), .load false 1 (.t 5), none, []⟩,
      ⟨(some 7), .b2s (.t 6), none, []⟩,
      ⟨(some 8), .cn (.t 1), none, []⟩,
      ⟨(some 9), .b2s (.t 8), none, []⟩,
      ⟨(some 10), .bin .plain .leq (.t 7) (.t 9), none, []⟩,
      ⟨(some 11), .mv (.t 10), none, []⟩,
      ⟨(some 12), .fa 2 (.t 2), (some (11, true)), []⟩,
      ⟨(some 13), .load false 1 (.t 12), (some (11, true)), []⟩,
      ⟨(some 14), .mv (.t 13), (some (11, true)), []⟩,
      ⟨(some 15), .cn (.t 1), (some (14, false)), []⟩,
      ⟨(some 16), .b2s (.t 15), (some (14, false)), []⟩,
      ⟨(some 17), .fa 1 (.t 2), (some (14, false)), []⟩,
      ⟨(some 18), .load false 1 (.t 17), (some (14, false)), []⟩,
      ⟨(some 19), .b2s (.t 18), (some (14, false)), []⟩,
      ⟨(some 20), .bin .plain .lss (.t 16) (.t 19), (some (14, false)), []⟩,
      ⟨(some 21), .pick (.t 14) (.k (.bool true)) (.t 20), (some (11, true)), []⟩,
      ⟨(some 22), .pick (.t 11) (.t 21) (.k (.bool false)), none, []⟩,
      ⟨(some 4), .mv (.t 22), none, []⟩])
    (.ret i_ref06_In_r))),
  [.tmp 4], [], false, []⟩

def i_ref06_Same_r : List Bool := [false, false, false, false, true, false, false, false, false, false, false, false, false, false, false, false, false, false, false, false, false, false, false, false, false, false, false, false, false, false, false, false, false, false, false, false, false, false, false, false, false, false, false, false, false]
def i_ref06_Same_j1 : List Bool := [true, true, false, false, false, true, false, false, false, false, false, false, false, false, false, false, false, false, false, false, false, false, false, false, false, false, false, false, false, false, false, false, false, false, false, false, false, false, false, false, false, false, false, false, false]
def i_ref06_Same_k0 : List Bool := [true, true, false, false, false, true, false, false, false, false, false, false, false, false, false, false, false, false, false, false, false, false, false, false, false, false, false, false, false, false, false, false, false, false, false, false, false, false, false, false, false, false, false, false, false]
def i_ref06_Same_j0 : List Bool := [false, false, false, false, false, false, false, false, false, false, false, false, false, false, false, false, false, false, false, false, false, false, false, false, false, false, false, false, false, false, false, false, false, false, false, false, false, false, false, false, false, false, false, false, false]
abbrev s_ref06_Same_R (t4 : AV) (h : Heap) : St := ⟨[.undef, .undef, .undef, .undef, t4, .undef, .undef, .undef, .undef, .undef, .undef, .undef, .undef, .undef, .undef, .undef, .undef, .undef, .undef, .undef, .undef, .undef, .undef, .undef, .undef, .undef, .undef, .undef, .undef, .undef, .undef, .undef, .undef, .undef, .undef, .undef, .undef, .undef, .undef, .undef, .undef, .undef, .undef, .undef, .undef], h⟩
abbrev s_ref06_Same_K0 (t0 t1 t5 : AV) (h : Heap) : St := ⟨[t0, t1, .undef, .undef, .undef, t5, .undef, .undef, .undef, .undef, .undef, .undef, .undef, .undef, .undef, .undef, .undef, .undef, .undef, .undef, .undef, .undef, .undef, .undef, .undef, .undef, .undef, .undef, .undef, .undef, .undef, .undef, .undef, .undef, .undef, .undef, .undef, .undef, .undef, .undef, .undef, .undef, .undef, .undef, .undef], h⟩
def i_ref06_Same_b0 : IR :=
  (.seq
   (.seq
    (.reg [] [
      ⟨(some 11), .mv (.t 5), none, []⟩,
      ⟨(some 12), .cn (.t 0), none, []⟩,
      ⟨(some 13), .len false (.t 12), none, []⟩,
      ⟨(some 14), .bin .plain .lss (.t 11) (.t 13), none, []⟩])
    (.cond (.t 14)
     .skip
     (.exit 0 i_ref06_Same_j0)))
   (.seq
    (.block 1 i_ref06_Same_j1
     (.seq
      (.reg [] [
        ⟨(some 17), .cn (.t 0), none, []⟩,
        ⟨(some 18), .mv (.t 5), none, []⟩,
        ⟨(some 19), .ia 2 (.t 17) (.t 18), none, []⟩,
        ⟨(some 20), .fa 0 (.t 19), none, []⟩,
        ⟨(some 21), .load false 1 (.t 20), none, []⟩,
        ⟨(some 22), .b2s (.t 21), none, []⟩,
        ⟨(some 23), .cn (.t 1), none, []⟩,
        ⟨(some 24), .mv (.t 5), none, []⟩,
        ⟨(some 25), .ia 2 (.t 23) (.t 24), none, []⟩,
        ⟨(some 26), .fa 0 (.t 25), none, []⟩,
        ⟨(some 27), .load false 1 (.t 26), none, []⟩,
        ⟨(some 28), .b2s (.t 27), none, []⟩,
        ⟨(some 29), .bin .plain .neq (.t 22) (.t 28), none, []⟩,
        ⟨(some 30), .mv (.t 29), none, []⟩,
        ⟨(some 31), .cn (.t 0), (some (30, false)), []⟩,
        ⟨(some 32), .mv (.t 5), (some (30, false)), []⟩,
        ⟨(some 33), .ia 2 (.t 31) (.t 32), (some (30, false)), []⟩,
        ⟨(some 34), .fa 1 (.t 33), (some (30, false)), []⟩,
        ⟨(some 35), .load false 1 (.t 34), (some (30, false)), []⟩,
        ⟨(some 36), .b2s (.t 35), (some (30, false)), []⟩,
        ⟨(some 37), .cn (.t 1), (some (30, false)), []⟩,
        ⟨(some 38), .mv (.t 5), (some (30, false)), []⟩,
        ⟨(some 39), .ia 2 (.t 37) (.t 38), (some (30, false)), []⟩,
        ⟨(some 40), .fa 1 (.t 39), (some (30, false)), []⟩,
        ⟨(some 41), .load false 1 (.t 40), (some (30, false)), []⟩,
        ⟨(some 42), .b2s (.t 41), (some (30, false)), []⟩,
        ⟨(some 43), .bin .plain .neq (.t 36) (.t 42), (some (30, false)), []⟩,
        ⟨(some 44), .pick (.t 30) (.k (.bool true)) (.t 43), none, []⟩])
      (.cond (.t 44)
       (.seq
        (.reg [] [
          ⟨(some 4), .mv (.k (.bool false)), none, []⟩])
        (.ret i_ref06_Same_r))
       .skip)))
    (.reg [] [
      ⟨(some 15), .mv (.t 5), none, []⟩,
      ⟨(some 16), .bin .plain .add (.t 15) (.k (.int .i64 1)), none, []⟩,
      ⟨(some 5), .mv (.t 16), none, []⟩])))

abbrev s_ref06_Same_J0 (h : Heap) : St := ⟨[.undef, .undef, .undef, .undef, .undef, .undef, .undef, .undef, .undef, .undef, .undef, .undef, .undef, .undef, .undef, .undef, .undef, .undef, .undef, .undef, .undef, .undef, .undef, .undef, .undef, .undef, .undef, .undef, .undef, .undef, .undef, .undef, .undef, .undef, .undef, .undef, .undef, .undef, .undef, .undef, .undef, .undef, .undef, .undef, .undef], h⟩
/-- heartwood/heartwoodref06.Same -/
def i_ref06_Same : Ev.Fn := ⟨2, 45, 0,
  (.seq
   (.reg [] [
     ⟨(some 4), .mv (.k (.bool false)), none, []⟩])
   (.seq
    (.seq
     (.reg [] [
       ⟨(some 6), .cn (.t 0), none, []⟩,
       ⟨(some 7), .len false (.t 6), none, []⟩,
       ⟨(some 8), .cn (.t 1), none, []⟩,
       ⟨(some 9), .len false (.t 8), none, []⟩,
       ⟨(some 10), .bin .plain .neq (.t 7) (.t 9), none, []⟩])
     (.cond (.t 10)
      (.seq
       (.reg [] [
         ⟨(some 4), .mv (.k (.bool false)), none, []⟩])
       (.ret i_ref06_Same_r))
      .skip))
    (.seq
     (.seq
      (.reg [] [
        ⟨(some 5), .mv (.k (.int .i64 0)), none, []⟩])
      (.block 0 i_ref06_Same_j0
       (.loop i_ref06_Same_k0 i_ref06_Same_b0)))
     (.seq
      (.reg [] [
        ⟨(some 4), .mv (.k (.bool true)), none, []⟩])
      (.ret i_ref06_Same_r))))),
  [.tmp 4], [], false, []⟩

def i_law05_AvlIs_r : List Bool := [false, false, true, false, false, false, false, false, false, false, false, false, false, false, false, false, false, false, false, false]
/-- heartwood/heartwoodlaw05.AvlIs -/
def i_law05_AvlIs : Ev.Fn := ⟨1, 20, 1,
  (.seq
   (.reg [] [
     ⟨(some 1), .box 0 5 (.t 0), none, []⟩,
     ⟨(some 2), .mv (.k (.bool false)), none, []⟩])
   (.seq
    (.reg [] [
      ⟨(some 5), .qcall n_law05_up [] [], none, []⟩,
      ⟨(some 3), .mv (.t 5), none, []⟩])
    (.seq
     (.reg [] [
       ⟨(some 6), .load true 5 (.t 1), none, []⟩,
       ⟨(some 7), .qcall n_law05_small [(.t 6)] [], none, []⟩,
       ⟨(some 4), .mv (.t 7), none, []⟩])
     (.seq
      (.reg [] [
        ⟨(some 8), .mv (.t 3), none, []⟩,
        ⟨(some 9), .mv (.t 8), none, []⟩,
        ⟨(some 10), .mv (.t 4), (some (9, true)), []⟩,
        ⟨(some 11), .un .not (.t 10), (some (9, true)), []⟩,
        ⟨(some 12), .mv (.t 11), (some (9, true)), []⟩,
        ⟨(some 13), .load true 5 (.t 1), (some (12, false)), []⟩,
        ⟨(some 14), .qcall n_avl_Is [(.t 13)] [], (some (12, false)), []⟩,
        ⟨(some 15), .load true 5 (.t 1), (some (12, false)), []⟩,
        ⟨(some 16), .qcall n_ref05_Is [(.t 15)] [], (some (12, false)), []⟩,
        ⟨(some 17), .bin .bool .eql (.t 14) (.t 16), (some (12, false)), []⟩,
        ⟨(some 18), .pick (.t 12) (.k (.bool true)) (.t 17), (some (9, true)), []⟩,
        ⟨(some 19), .pick (.t 9) (.t 18) (.k (.bool false)), none, []⟩,
        ⟨(some 2), .mv (.t 19), none, []⟩])
      (.ret i_law05_AvlIs_r))))),
  [.tmp 2], [], false, []⟩

def i_law05_up_r : List Bool := [true, false, false, false, false, false, false, false, false, false, false, false, false, false, false, false, false, false, false, false, false, false, false, false, false, false, false, false, false, false, false, false, false, false, false, false, false, false, false, false, false, false, false, false, false, false, false, false, false, false, false, false, false, false, false, false, false, false, false, false, false, false, false, false, false, false, false, false, false]
/-- heartwood/heartwoodlaw05.up -/
def i_law05_up : Ev.Fn := ⟨0, 69, 8,
  (.seq
   (.reg [] [
     ⟨(some 0), .mv (.k (.bool false)), none, []⟩])
   (.seq
    (.reg [] [
      ⟨(some 11), .build [(.int .i64 0), (.slice none 0 0), (.slice none 0 0), (.slice none 0 0), (.slice none 0 0)] [], none, []⟩,
      ⟨(some 12), .lit 0 ty_uint8 1 1 [(.int .u8 0)] [(0, (.k (.int .u8 97)))], none, []⟩,
      ⟨(some 13), .markb (.t 12), none, []⟩,
      ⟨(some 14), .lit 1 ty_uint8 1 1 [(.int .u8 0)] [(0, (.k (.int .u8 49)))], none, []⟩,
      ⟨(some 15), .markb (.t 14), none, []⟩,
      ⟨(some 16), .qcall n_avl_Put [(.t 11), (.t 13), (.t 15)] [], none, []⟩,
      ⟨(some 10), .mv (.t 16), none, []⟩,
      ⟨(some 17), .ext 0 (.t 10), none, []⟩,
      ⟨(some 18), .ext 1 (.t 10), none, []⟩,
      ⟨(some 1), .new 2 [(.int .i64 0), (.slice none 0 0), (.slice none 0 0), (.slice none 0 0), (.slice none 0 0)], none, []⟩,
      ⟨none, .store 5 (.t 1) (.t 17), none, []⟩,
      ⟨(some 2), .mv (.t 18), none, []⟩])
    (.seq
     (.reg [] [
       ⟨(some 20), .load true 5 (.t 1), none, []⟩,
       ⟨(some 21), .lit 3 ty_uint8 1 1 [(.int .u8 0)] [(0, (.k (.int .u8 98)))], none, []⟩,
       ⟨(some 22), .markb (.t 21), none, []⟩,
       ⟨(some 23), .qcall n_avl_Put [(.t 20), (.t 22), (.k (.slice none 0 0))] [], none, []⟩,
       ⟨(some 19), .mv (.t 23), none, []⟩,
       ⟨(some 24), .ext 0 (.t 19), none, []⟩,
       ⟨(some 25), .ext 1 (.t 19), none, []⟩,
       ⟨(some 3), .new 4 [(.int .i64 0), (.slice none 0 0), (.slice none 0 0), (.slice none 0 0), (.slice none 0 0)], none, []⟩,
       ⟨none, .store 5 (.t 3) (.t 24), none, []⟩,
       ⟨(some 4), .mv (.t 25), none, []⟩])
     (.seq
      (.reg [] [
        ⟨(some 27), .load true 5 (.t 3), none, []⟩,
        ⟨(some 28), .lit 5 ty_uint8 1 1 [(.int .u8 0)] [(0, (.k (.int .u8 99)))], none, []⟩,
        ⟨(some 29), .markb (.t 28), none, []⟩,
        ⟨(some 30), .qcall n_avl_Put [(.t 27), (.t 29), (.k (.slice none 0 0))] [], none, []⟩,
        ⟨(some 26), .mv (.t 30), none, []⟩,
        ⟨(some 31), .ext 0 (.t 26), none, []⟩,
        ⟨(some 32), .ext 1 (.t 26), none, []⟩,
        ⟨(some 5), .new 6 [(.int .i64 0), (.slice none 0 0), (.slice none 0 0), (.slice none 0 0), (.slice none 0 0)], none, []⟩,
        ⟨none, .store 5 (.t 5) (.t 31), none, []⟩,
        ⟨(some 6), .mv (.t 32), none, []⟩])
      (.seq
       (.reg [] [
         ⟨(some 34), .load true 5 (.t 5), none, []⟩,
         ⟨(some 35), .lit 7 ty_uint8 1 1 [(.int .u8 0)] [(0, (.k (.int .u8 97)))], none, []⟩,
         ⟨(some 36), .markb (.t 35), none, []⟩,
         ⟨(some 37), .qcall n_avl_Get [(.t 34), (.t 36)] [], none, []⟩,
         ⟨(some 33), .mv (.t 37), none, []⟩,
         ⟨(some 38), .ext 0 (.t 33), none, []⟩,
         ⟨(some 39), .ext 1 (.t 33), none, []⟩,
         ⟨(some 40), .ext 2 (.t 33), none, []⟩,
         ⟨(some 7), .cn (.t 38), none, []⟩,
         ⟨(some 8), .mv (.t 39), none, []⟩,
         ⟨(some 9), .mv (.t 40), none, []⟩])
       (.seq
        (.reg [] [
          ⟨(some 41), .mv (.t 2), none, []⟩,
          ⟨(some 42), .bin (.iface ty_api_Code true) .eql (.t 41) (.k .nilIface), none, []⟩,
          ⟨(some 43), .mv (.t 42), none, []⟩,
          ⟨(some 44), .mv (.t 4), (some (43, true)), []⟩,
          ⟨(some 45), .bin (.iface ty_api_Code true) .eql (.t 44) (.k .nilIface), (some (43, true)), []⟩,
          ⟨(some 46), .pick (.t 43) (.t 45) (.k (.bool false)), none, []⟩,
          ⟨(some 47), .mv (.t 46), none, []⟩,
          ⟨(some 48), .mv (.t 6), (some (47, true)), []⟩,
          ⟨(some 49), .bin (.iface ty_api_Code true) .eql (.t 48) (.k .nilIface), (some (47, true)), []⟩,
          ⟨(some 50), .pick (.t 47) (.t 49) (.k (.bool false)), none, []⟩,
          ⟨(some 51), .mv (.t 50), none, []⟩,
          ⟨(some 52), .mv (.t 9), (some (51, true)), []⟩,
          ⟨(some 53), .bin (.iface ty_api_Code true) .eql (.t 52) (.k .nilIface), (some (51, true)), []⟩,
          ⟨(some 54), .pick (.t 51) (.t 53) (.k (.bool false)), none, []⟩,
          ⟨(some 55), .mv (.t 54), none, []⟩,
          ⟨(some 56), .mv (.t 8), (some (55, true)), []⟩,
          ⟨(some 57), .pick (.t 55) (.t 56) (.k (.bool false)), none, []⟩,
          ⟨(some 58), .mv (.t 57), none, []⟩,
          ⟨(some 59), .cn (.t 7), (some (58, true)), []⟩,
          ⟨(some 60), .b2s (.t 59), (some (58, true)), []⟩,
          ⟨(some 61), .bin .plain .eql (.t 60) (.k (.string ⟨#[49]⟩)), (some (58, true)), []⟩,
          ⟨(some 62), .pick (.t 58) (.t 61) (.k (.bool false)), none, []⟩,
          ⟨(some 63), .mv (.t 62), none, []⟩,
          ⟨(some 64), .fa 1 (.t 5), (some (63, true)), []⟩,
          ⟨(some 65), .load false 1 (.t 64), (some (63, true)), []⟩,
          ⟨(some 66), .b2s (.t 65), (some (63, true)), []⟩,
          ⟨(some 67), .bin .plain .eql (.t 66) (.k (.string ⟨#[98]⟩)), (some (63, true)), []⟩,
          ⟨(some 68), .pick (.t 63) (.t 67) (.k (.bool false)), none, []⟩,
          ⟨(some 0), .mv (.t 68), none, []⟩])
        (.ret i_law05_up_r))))))),
  [.tmp 0], [], false, []⟩

def i_avl_Put_r : List Bool := [false, false, false, false, false, false, true, true, false, false, false, false, false, false, false, false, false, false, false, false, false, false, false]
/-- heartwood/avl.Put -/
def i_avl_Put : Ev.Fn := ⟨3, 23, 2,
  (.seq
   (.reg [] [
     ⟨(some 3), .box 0 5 (.t 0), none, []⟩,
     ⟨(some 6), .new 1 [(.int .i64 0), (.slice none 0 0), (.slice none 0 0), (.slice none 0 0), (.slice none 0 0)], none, []⟩,
     ⟨(some 7), .mv (.k .nilIface), none, []⟩])
   (.seq
    (.seq
     (.reg [] [
       ⟨(some 9), .load true 5 (.t 3), none, []⟩,
       ⟨(some 10), .cn (.t 1), none, []⟩,
       ⟨(some 11), .cn (.t 2), none, []⟩,
       ⟨(some 12), .qcall n_avl_asked [(.t 9), (.t 10), (.t 11)] [], none, []⟩,
       ⟨(some 8), .mv (.t 12), none, []⟩])
     (.seq
      (.reg [] [
        ⟨(some 13), .mv (.t 8), none, []⟩,
        ⟨(some 14), .bin (.iface ty_api_Code true) .neq (.t 13) (.k .nilIface), none, []⟩])
      (.cond (.t 14)
       (.seq
        (.reg [] [
          ⟨(some 15), .build [(.int .i64 0), (.slice none 0 0), (.slice none 0 0), (.slice none 0 0), (.slice none 0 0)] [], none, []⟩,
          ⟨(some 16), .mv (.t 8), none, []⟩,
          ⟨none, .store 5 (.t 6) (.t 15), none, []⟩,
          ⟨(some 7), .mv (.t 16), none, []⟩])
        (.ret i_avl_Put_r))
       .skip)))
    (.seq
     (.reg [] [
       ⟨(some 17), .load true 5 (.t 3), none, []⟩,
       ⟨(some 18), .cn (.t 1), none, []⟩,
       ⟨(some 19), .qcall n_slices_Clone_sl_byte_byte [(.t 18)] [], none, []⟩,
       ⟨(some 20), .cn (.t 2), none, []⟩,
       ⟨(some 21), .qcall n_slices_Clone_sl_byte_byte [(.t 20)] [], none, []⟩,
       ⟨(some 22), .qcall n_avl_put [(.t 17), (.t 19), (.t 21)] [], none, []⟩,
       ⟨none, .store 5 (.t 6) (.t 22), none, []⟩,
       ⟨(some 7), .mv (.k .nilIface), none, []⟩])
     (.ret i_avl_Put_r)))),
  [.cell 6 true 5, .tmp 7], [], false, []⟩

def i_avl_asked_r : List Bool := [false, false, false, false, false, false, true, false, false, false, false, false, false, false, false, false, false, false, false, false, false, false]
def i_avl_asked_j0 : List Bool := [false, false, false, false, false, false, false, false, false, false, false, false, false, false, false, false, false, false, false, false, false, false]
/-- heartwood/avl.asked -/
def i_avl_asked : Ev.Fn := ⟨3, 22, 1,
  (.seq
   (.reg [] [
     ⟨(some 3), .box 0 5 (.t 0), none, []⟩,
     ⟨(some 6), .mv (.k .nilIface), none, []⟩])
   (.seq
    (.block 0 i_avl_asked_j0
     (.seq
      (.reg [] [
        ⟨(some 8), .load true 5 (.t 3), none, []⟩,
        ⟨(some 9), .qcall n_avl_Is [(.t 8)] [], none, []⟩,
        ⟨(some 10), .un .not (.t 9), none, []⟩,
        ⟨(some 7), .mv (.t 10), none, []⟩])
      (.cond (.t 7)
       (.seq
        (.reg [] [
          ⟨(some 11), .mki ty_api_Code (.k (.int .i64 3)), none, []⟩,
          ⟨(some 6), .mv (.t 11), none, []⟩])
        (.ret i_avl_asked_r))
       (.seq
        (.reg [] [
          ⟨(some 13), .cn (.t 1), none, []⟩,
          ⟨(some 14), .len false (.t 13), none, []⟩,
          ⟨(some 15), .bin .plain .gtr (.t 14) (.k (.int .i64 80)), none, []⟩,
          ⟨(some 16), .mv (.t 15), none, []⟩,
          ⟨(some 17), .cn (.t 2), (some (16, false)), []⟩,
          ⟨(some 18), .len false (.t 17), (some (16, false)), []⟩,
          ⟨(some 19), .bin .plain .gtr (.t 18) (.k (.int .i64 1024)), (some (16, false)), []⟩,
          ⟨(some 20), .pick (.t 16) (.k (.bool true)) (.t 19), none, []⟩,
          ⟨(some 12), .mv (.t 20), none, []⟩])
        (.cond (.t 12)
         (.seq
          (.reg [] [
            ⟨(some 21), .mki ty_api_Code (.k (.int .i64 1)), none, []⟩,
            ⟨(some 6), .mv (.t 21), none, []⟩])
          (.ret i_avl_asked_r))
         .skip)))))
    (.seq
     (.reg [] [
       ⟨(some 6), .mv (.k .nilIface), none, []⟩])
     (.ret i_avl_asked_r)))),
  [.tmp 6], [], false, []⟩

def i_avl_put_r : List Bool := [false, false, false, false, false, false, true, false, false, false, false, false, false, false, false, false, false, false, false, false, false, false, false, false, false, false, false, false, false, false, false, false, false, false, false, false, false, false, false, false, false, false, false, false, false, false, false, false, false, false, false, false, false, false, false, false, false, false, false, false, false, false, false, false, false]
def i_avl_put_j0 : List Bool := [false, true, true, true, false, false, true, true, true, false, false, false, false, false, false, false, false, false, false, false, false, false, false, false, false, false, false, false, false, false, false, false, false, false, false, false, false, false, false, false, false, false, false, false, false, false, false, false, false, false, false, false, false, false, false, false, false, false, false, false, false, false, false, false, false]
/-- heartwood/avl.put -/
def i_avl_put : Ev.Fn := ⟨3, 65, 4,
  (.seq
   (.reg [] [
     ⟨(some 3), .box 0 5 (.t 0), none, []⟩,
     ⟨(some 6), .new 1 [(.int .i64 0), (.slice none 0 0), (.slice none 0 0), (.slice none 0 0), (.slice none 0 0)], none, []⟩])
   (.seq
    (.seq
     (.reg [] [
       ⟨(some 10), .fa 4 (.t 3), none, []⟩,
       ⟨(some 11), .load false 1 (.t 10), none, []⟩,
       ⟨(some 12), .len false (.t 11), none, []⟩,
       ⟨(some 13), .bin .plain .eql (.t 12) (.k (.int .i64 0)), none, []⟩])
     (.cond (.t 13)
      (.seq
       (.reg [] [
         ⟨(some 14), .build [(.int .i64 0), (.slice none 0 0), (.slice none 0 0), (.slice none 0 0), (.slice none 0 0)] [], none, []⟩,
         ⟨(some 15), .cn (.t 1), none, []⟩,
         ⟨(some 16), .cn (.t 2), none, []⟩,
         ⟨(some 17), .build [(.int .i64 0), (.slice none 0 0), (.slice none 0 0), (.slice none 0 0), (.slice none 0 0)] [], none, []⟩,
         ⟨(some 18), .qcall n_avl_node [(.t 14), (.t 15), (.t 16), (.t 17)] [], none, []⟩,
         ⟨none, .store 5 (.t 6) (.t 18), none, []⟩])
       (.ret i_avl_put_r))
      .skip))
    (.seq
     (.reg [(1, 8), (2, 8), (3, 8), (5, 8), (6, 8), (7, 8), (1, 9), (2, 9), (3, 9), (5, 9), (6, 9), (7, 9), (8, 9), (5, 10), (6, 10), (7, 10)] [
       ⟨(some 19), .fa 4 (.t 3), none, []⟩,
       ⟨(some 20), .load false 1 (.t 19), none, []⟩,
       ⟨(some 21), .ia 5 (.t 20) (.k (.int .i64 0)), none, []⟩,
       ⟨(some 22), .load true 5 (.t 21), none, []⟩,
       ⟨(some 23), .fa 4 (.t 3), none, []⟩,
       ⟨(some 24), .load false 1 (.t 23), none, []⟩,
       ⟨(some 25), .ia 5 (.t 24) (.k (.int .i64 1)), none, []⟩,
       ⟨(some 26), .load true 5 (.t 25), none, []⟩,
       ⟨(some 7), .new 2 [(.int .i64 0), (.slice none 0 0), (.slice none 0 0), (.slice none 0 0), (.slice none 0 0)], none, []⟩,
       ⟨(some 8), .new 3 [(.int .i64 0), (.slice none 0 0), (.slice none 0 0), (.slice none 0 0), (.slice none 0 0)], none, []⟩,
       ⟨none, .store 5 (.t 7) (.t 22), none, []⟩,
       ⟨none, .store 5 (.t 8) (.t 26), none, []⟩])
     (.seq
      (.seq
       (.reg [] [
         ⟨(some 27), .cn (.t 1), none, []⟩,
         ⟨(some 28), .fa 1 (.t 3), none, []⟩,
         ⟨(some 29), .load false 1 (.t 28), none, []⟩,
         ⟨(some 30), .qcall n_bytes_Compare [(.t 27), (.t 29)] [], none, []⟩,
         ⟨(some 9), .mv (.t 30), none, []⟩])
       (.block 0 i_avl_put_j0
        (.seq
         (.reg [] [
           ⟨(some 32), .mv (.t 9), none, []⟩,
           ⟨(some 33), .bin .plain .eql (.t 32) (.k (.int .i64 0)), none, []⟩,
           ⟨(some 31), .mv (.t 33), none, []⟩])
         (.cond (.t 31)
          (.seq
           (.reg [] [
             ⟨(some 34), .load true 5 (.t 7), none, []⟩,
             ⟨(some 35), .fa 1 (.t 3), none, []⟩,
             ⟨(some 36), .load false 1 (.t 35), none, []⟩,
             ⟨(some 37), .cn (.t 2), none, []⟩,
             ⟨(some 38), .load true 5 (.t 8), none, []⟩,
             ⟨(some 39), .qcall n_avl_node [(.t 34), (.t 36), (.t 37), (.t 38)] [], none, []⟩,
             ⟨none, .store 5 (.t 6) (.t 39), none, []⟩])
           (.ret i_avl_put_r))
          (.seq
           (.reg [] [
             ⟨(some 41), .mv (.t 9), none, []⟩,
             ⟨(some 42), .bin .plain .lss (.t 41) (.k (.int .i64 0)), none, []⟩,
             ⟨(some 40), .mv (.t 42), none, []⟩])
           (.cond (.t 40)
            (.seq
             (.reg [] [
               ⟨(some 43), .load true 5 (.t 7), none, []⟩,
               ⟨(some 44), .cn (.t 1), none, []⟩,
               ⟨(some 45), .cn (.t 2), none, []⟩,
               ⟨(some 46), .qcall n_avl_put [(.t 43), (.t 44), (.t 45)] [], none, []⟩,
               ⟨(some 47), .fa 1 (.t 3), none, []⟩,
               ⟨(some 48), .load false 1 (.t 47), none, []⟩,
               ⟨(some 49), .fa 2 (.t 3), none, []⟩,
               ⟨(some 50), .load false 1 (.t 49), none, []⟩,
               ⟨(some 51), .load true 5 (.t 8), none, []⟩,
               ⟨(some 52), .qcall n_avl_node [(.t 46), (.t 48), (.t 50), (.t 51)] [], none, []⟩,
               ⟨(some 53), .qcall n_avl_leveled [(.t 52)] [], none, []⟩,
               ⟨none, .store 5 (.t 6) (.t 53), none, []⟩])
             (.ret i_avl_put_r))
            .skip))))))
      (.seq
       (.reg [] [
         ⟨(some 54), .load true 5 (.t 7), none, []⟩,
         ⟨(some 55), .fa 1 (.t 3), none, []⟩,
         ⟨(some 56), .load false 1 (.t 55), none, []⟩,
         ⟨(some 57), .fa 2 (.t 3), none, []⟩,
         ⟨(some 58), .load false 1 (.t 57), none, []⟩,
         ⟨(some 59), .load true 5 (.t 8), none, []⟩,
         ⟨(some 60), .cn (.t 1), none, []⟩,
         ⟨(some 61), .cn (.t 2), none, []⟩,
         ⟨(some 62), .qcall n_avl_put [(.t 59), (.t 60), (.t 61)] [], none, []⟩,
         ⟨(some 63), .qcall n_avl_node [(.t 54), (.t 56), (.t 58), (.t 62)] [], none, []⟩,
         ⟨(some 64), .qcall n_avl_leveled [(.t 63)] [], none, []⟩,
         ⟨none, .store 5 (.t 6) (.t 64), none, []⟩])
       (.ret i_avl_put_r)))))),
  [.cell 6 true 5], [], false, []⟩

def i_avl_node_r : List Bool := [false, false, false, false, false, false, false, false, true, false, false, false, false, false, false]
/-- heartwood/avl.node -/
def i_avl_node : Ev.Fn := ⟨4, 15, 3,
  (.seq
   (.reg [] [
     ⟨(some 4), .box 0 5 (.t 0), none, []⟩,
     ⟨(some 7), .box 1 5 (.t 3), none, []⟩,
     ⟨(some 8), .new 2 [(.int .i64 0), (.slice none 0 0), (.slice none 0 0), (.slice none 0 0), (.slice none 0 0)], none, []⟩])
   (.seq
    (.reg [] [
      ⟨(some 9), .cn (.t 1), none, []⟩,
      ⟨(some 10), .cn (.t 2), none, []⟩,
      ⟨(some 11), .load true 5 (.t 4), none, []⟩,
      ⟨(some 12), .load true 5 (.t 7), none, []⟩,
      ⟨(some 13), .litd 5 2 [(.int .i64 0), (.slice none 0 0), (.slice none 0 0), (.slice none 0 0), (.slice none 0 0)] [(0, (.t 11)), (1, (.t 12))], none, []⟩,
      ⟨(some 14), .build [(.int .i64 0), (.slice none 0 0), (.slice none 0 0), (.slice none 0 0), (.slice none 0 0)] [(0, 1, (.k (.int .i64 1))), (1, 1, (.t 9)), (2, 1, (.t 10)), (4, 1, (.t 13))], none, []⟩,
      ⟨none, .store 5 (.t 8) (.t 14), none, []⟩])
    (.ret i_avl_node_r))),
  [.cell 8 true 5], [], false, []⟩

def i_avl_leveled_r : List Bool := [false, false, true, false, false, false, false, false, false, false, false, false, false, false, false, false, false, false, false, false, false, false, false, false, false, false, false, false, false, false, false, false, false, false, false, false, false, false, false, false, false, false, false, false, false, false, false, false, false, false, false, false, false, false, false, false, false, false, false, false, false, false, false, false, false, false, false, false]
def i_avl_leveled_j0 : List Bool := [false, true, true, false, false, false, false, false, false, false, false, false, false, false, false, false, false, false, false, false, false, false, false, false, false, false, false, false, false, false, false, false, false, false, false, false, false, false, false, false, false, false, false, false, false, false, false, false, false, false, false, false, false, false, false, false, false, false, false, false, false, false, false, false, false, false, false, false]
/-- heartwood/avl.leveled -/
def i_avl_leveled : Ev.Fn := ⟨1, 68, 4,
  (.seq
   (.reg [] [
     ⟨(some 1), .box 0 5 (.t 0), none, []⟩,
     ⟨(some 2), .new 1 [(.int .i64 0), (.slice none 0 0), (.slice none 0 0), (.slice none 0 0), (.slice none 0 0)], none, []⟩])
   (.seq
    (.reg [(1, 8), (2, 8), (3, 8), (5, 8), (6, 8), (7, 8), (1, 9), (2, 9), (3, 9), (5, 9), (6, 9), (7, 9), (8, 9), (5, 10), (6, 10), (7, 10)] [
      ⟨(some 6), .fa 4 (.t 1), none, []⟩,
      ⟨(some 7), .load false 1 (.t 6), none, []⟩,
      ⟨(some 8), .ia 5 (.t 7) (.k (.int .i64 0)), none, []⟩,
      ⟨(some 9), .load true 5 (.t 8), none, []⟩,
      ⟨(some 10), .fa 4 (.t 1), none, []⟩,
      ⟨(some 11), .load false 1 (.t 10), none, []⟩,
      ⟨(some 12), .ia 5 (.t 11) (.k (.int .i64 1)), none, []⟩,
      ⟨(some 13), .load true 5 (.t 12), none, []⟩,
      ⟨(some 3), .new 2 [(.int .i64 0), (.slice none 0 0), (.slice none 0 0), (.slice none 0 0), (.slice none 0 0)], none, []⟩,
      ⟨(some 4), .new 3 [(.int .i64 0), (.slice none 0 0), (.slice none 0 0), (.slice none 0 0), (.slice none 0 0)], none, []⟩,
      ⟨none, .store 5 (.t 3) (.t 9), none, []⟩,
      ⟨none, .store 5 (.t 4) (.t 13), none, []⟩])
    (.seq
     (.seq
      (.reg [] [
        ⟨(some 14), .load true 5 (.t 3), none, []⟩,
        ⟨(some 15), .qcall n_avl_depth [(.t 14)] [], none, []⟩,
        ⟨(some 16), .load true 5 (.t 4), none, []⟩,
        ⟨(some 17), .qcall n_avl_depth [(.t 16)] [], none, []⟩,
        ⟨(some 18), .bin .plain .sub (.t 15) (.t 17), none, []⟩,
        ⟨(some 5), .mv (.t 18), none, []⟩])
      (.block 0 i_avl_leveled_j0
       (.seq
        (.reg [] [
          ⟨(some 20), .mv (.t 5), none, []⟩,
          ⟨(some 21), .bin .plain .gtr (.t 20) (.k (.int .i64 1)), none, []⟩,
          ⟨(some 19), .mv (.t 21), none, []⟩])
        (.cond (.t 19)
         (.seq
          (.seq
           (.reg [] [
             ⟨(some 22), .fa 4 (.t 3), none, []⟩,
             ⟨(some 23), .load false 1 (.t 22), none, []⟩,
             ⟨(some 24), .ia 5 (.t 23) (.k (.int .i64 0)), none, []⟩,
             ⟨(some 25), .load true 5 (.t 24), none, []⟩,
             ⟨(some 26), .qcall n_avl_depth [(.t 25)] [], none, []⟩,
             ⟨(some 27), .fa 4 (.t 3), none, []⟩,
             ⟨(some 28), .load false 1 (.t 27), none, []⟩,
             ⟨(some 29), .ia 5 (.t 28) (.k (.int .i64 1)), none, []⟩,
             ⟨(some 30), .load true 5 (.t 29), none, []⟩,
             ⟨(some 31), .qcall n_avl_depth [(.t 30)] [], none, []⟩,
             ⟨(some 32), .bin .plain .lss (.t 26) (.t 31), none, []⟩])
           (.cond (.t 32)
            (.reg [] [
              ⟨(some 33), .load true 5 (.t 3), none, []⟩,
              ⟨(some 34), .qcall n_avl_left [(.t 33)] [], none, []⟩,
              ⟨(some 35), .fa 1 (.t 1), none, []⟩,
              ⟨(some 36), .load false 1 (.t 35), none, []⟩,
              ⟨(some 37), .fa 2 (.t 1), none, []⟩,
              ⟨(some 38), .load false 1 (.t 37), none, []⟩,
              ⟨(some 39), .load true 5 (.t 4), none, []⟩,
              ⟨(some 40), .qcall n_avl_node [(.t 34), (.t 36), (.t 38), (.t 39)] [], none, []⟩,
              ⟨none, .store 5 (.t 1) (.t 40), none, []⟩])
            .skip))
          (.seq
           (.reg [] [
             ⟨(some 41), .load true 5 (.t 1), none, []⟩,
             ⟨(some 42), .qcall n_avl_right [(.t 41)] [], none, []⟩,
             ⟨none, .store 5 (.t 2) (.t 42), none, []⟩])
           (.ret i_avl_leveled_r)))
         (.seq
          (.reg [] [
            ⟨(some 44), .mv (.t 5), none, []⟩,
            ⟨(some 45), .bin .plain .lss (.t 44) (.k (.int .i64 (-1))), none, []⟩,
            ⟨(some 43), .mv (.t 45), none, []⟩])
          (.cond (.t 43)
           (.seq
            (.seq
             (.reg [] [
               ⟨(some 46), .fa 4 (.t 4), none, []⟩,
               ⟨(some 47), .load false 1 (.t 46), none, []⟩,
               ⟨(some 48), .ia 5 (.t 47) (.k (.int .i64 1)), none, []⟩,
               ⟨(some 49), .load true 5 (.t 48), none, []⟩,
               ⟨(some 50), .qcall n_avl_depth [(.t 49)] [], none, []⟩,
               ⟨(some 51), .fa 4 (.t 4), none, []⟩,
               ⟨(some 52), .load false 1 (.t 51), none, []⟩,
               ⟨(some 53), .ia 5 (.t 52) (.k (.int .i64 0)), none, []⟩,
               ⟨(some 54), .load true 5 (.t 53), none, []⟩,
               ⟨(some 55), .qcall n_avl_depth [(.t 54)] [], none, []⟩,
               ⟨(some 56), .bin .plain .lss (.t 50) (.t 55), none, []⟩])
             (.cond (.t 56)
              (.reg [] [
                ⟨(some 57), .load true 5 (.t 3), none, []⟩,
                ⟨(some 58), .fa 1 (.t 1), none, []⟩,
                ⟨(some 59), .load false 1 (.t 58), none, []⟩,
                ⟨(some 60), .fa 2 (.t 1), none, []⟩,
                ⟨(some 61), .load false 1 (.t 60), none, []⟩,
                ⟨(some 62), .load true 5 (.t 4), none, []⟩,
                ⟨(some 63), .qcall n_avl_right [(.t 62)] [], none, []⟩,
                ⟨(some 64), .qcall n_avl_node [(.t 57), (.t 59), (.t 61), (.t 63)] [], none, []⟩,
                ⟨none, .store 5 (.t 1) (.t 64), none, []⟩])
              .skip))
            (.seq
             (.reg [] [
               ⟨(some 65), .load true 5 (.t 1), none, []⟩,
               ⟨(some 66), .qcall n_avl_left [(.t 65)] [], none, []⟩,
               ⟨none, .store 5 (.t 2) (.t 66), none, []⟩])
             (.ret i_avl_leveled_r)))
           .skip))))))
     (.seq
      (.reg [] [
        ⟨(some 67), .load true 5 (.t 1), none, []⟩,
        ⟨none, .store 5 (.t 2) (.t 67), none, []⟩])
      (.ret i_avl_leveled_r))))),
  [.cell 2 true 5], [], false, []⟩

def i_avl_depth_r : List Bool := [false, false, true, false, false, false, false, false, false, false, false]
/-- heartwood/avl.depth -/
def i_avl_depth : Ev.Fn := ⟨1, 11, 1,
  (.seq
   (.reg [] [
     ⟨(some 1), .box 0 5 (.t 0), none, []⟩,
     ⟨(some 2), .mv (.k (.int .i64 0)), none, []⟩])
   (.seq
    (.reg [] [
      ⟨(some 6), .load true 5 (.t 1), none, []⟩,
      ⟨(some 7), .qcall n_avl_even [(.t 6)] [], none, []⟩,
      ⟨(some 5), .mv (.t 7), none, []⟩,
      ⟨(some 8), .ext 0 (.t 5), none, []⟩,
      ⟨(some 9), .ext 1 (.t 5), none, []⟩,
      ⟨(some 3), .mv (.t 8), none, []⟩,
      ⟨(some 4), .mv (.t 9), none, []⟩])
    (.seq
     (.reg [] [
       ⟨(some 10), .mv (.t 3), none, []⟩,
       ⟨(some 2), .mv (.t 10), none, []⟩])
     (.ret i_avl_depth_r)))),
  [.tmp 2], [], false, []⟩

def i_avl_left_r : List Bool := [false, false, true, false, false, false, false, false, false, false, false, false, false, false, false, false, false, false, false, false, false, false, false, false, false, false, false, false, false, false]
/-- heartwood/avl.left -/
def i_avl_left : Ev.Fn := ⟨1, 30, 3,
  (.seq
   (.reg [] [
     ⟨(some 1), .box 0 5 (.t 0), none, []⟩,
     ⟨(some 2), .new 1 [(.int .i64 0), (.slice none 0 0), (.slice none 0 0), (.slice none 0 0), (.slice none 0 0)], none, []⟩])
   (.seq
    (.reg [] [
      ⟨(some 4), .fa 4 (.t 1), none, []⟩,
      ⟨(some 5), .load false 1 (.t 4), none, []⟩,
      ⟨(some 6), .ia 5 (.t 5) (.k (.int .i64 1)), none, []⟩,
      ⟨(some 7), .load true 5 (.t 6), none, []⟩,
      ⟨(some 3), .new 2 [(.int .i64 0), (.slice none 0 0), (.slice none 0 0), (.slice none 0 0), (.slice none 0 0)], none, []⟩,
      ⟨none, .store 5 (.t 3) (.t 7), none, []⟩])
    (.seq
     (.reg [] [
       ⟨(some 8), .fa 4 (.t 1), none, []⟩,
       ⟨(some 9), .load false 1 (.t 8), none, []⟩,
       ⟨(some 10), .ia 5 (.t 9) (.k (.int .i64 0)), none, []⟩,
       ⟨(some 11), .load true 5 (.t 10), none, []⟩,
       ⟨(some 12), .fa 1 (.t 1), none, []⟩,
       ⟨(some 13), .load false 1 (.t 12), none, []⟩,
       ⟨(some 14), .fa 2 (.t 1), none, []⟩,
       ⟨(some 15), .load false 1 (.t 14), none, []⟩,
       ⟨(some 16), .fa 4 (.t 3), none, []⟩,
       ⟨(some 17), .load false 1 (.t 16), none, []⟩,
       ⟨(some 18), .ia 5 (.t 17) (.k (.int .i64 0)), none, []⟩,
       ⟨(some 19), .load true 5 (.t 18), none, []⟩,
       ⟨(some 20), .qcall n_avl_node [(.t 11), (.t 13), (.t 15), (.t 19)] [], none, []⟩,
       ⟨(some 21), .fa 1 (.t 3), none, []⟩,
       ⟨(some 22), .load false 1 (.t 21), none, []⟩,
       ⟨(some 23), .fa 2 (.t 3), none, []⟩,
       ⟨(some 24), .load false 1 (.t 23), none, []⟩,
       ⟨(some 25), .fa 4 (.t 3), none, []⟩,
       ⟨(some 26), .load false 1 (.t 25), none, []⟩,
       ⟨(some 27), .ia 5 (.t 26) (.k (.int .i64 1)), none, []⟩,
       ⟨(some 28), .load true 5 (.t 27), none, []⟩,
       ⟨(some 29), .qcall n_avl_node [(.t 20), (.t 22), (.t 24), (.t 28)] [], none, []⟩,
       ⟨none, .store 5 (.t 2) (.t 29), none, []⟩])
     (.ret i_avl_left_r)))),
  [.cell 2 true 5], [], false, []⟩

def i_avl_right_r : List Bool := [false, false, true, false, false, false, false, false, false, false, false, false, false, false, false, false, false, false, false, false, false, false, false, false, false, false, false, false, false, false]
/-- heartwood/avl.right -/
def i_avl_right : Ev.Fn := ⟨1, 30, 3,
  (.seq
   (.reg [] [
     ⟨(some 1), .box 0 5 (.t 0), none, []⟩,
     ⟨(some 2), .new 1 [(.int .i64 0), (.slice none 0 0), (.slice none 0 0), (.slice none 0 0), (.slice none 0 0)], none, []⟩])
   (.seq
    (.reg [] [
      ⟨(some 4), .fa 4 (.t 1), none, []⟩,
      ⟨(some 5), .load false 1 (.t 4), none, []⟩,
      ⟨(some 6), .ia 5 (.t 5) (.k (.int .i64 0)), none, []⟩,
      ⟨(some 7), .load true 5 (.t 6), none, []⟩,
      ⟨(some 3), .new 2 [(.int .i64 0), (.slice none 0 0), (.slice none 0 0), (.slice none 0 0), (.slice none 0 0)], none, []⟩,
      ⟨none, .store 5 (.t 3) (.t 7), none, []⟩])
    (.seq
     (.reg [] [
       ⟨(some 8), .fa 4 (.t 3), none, []⟩,
       ⟨(some 9), .load false 1 (.t 8), none, []⟩,
       ⟨(some 10), .ia 5 (.t 9) (.k (.int .i64 0)), none, []⟩,
       ⟨(some 11), .load true 5 (.t 10), none, []⟩,
       ⟨(some 12), .fa 1 (.t 3), none, []⟩,
       ⟨(some 13), .load false 1 (.t 12), none, []⟩,
       ⟨(some 14), .fa 2 (.t 3), none, []⟩,
       ⟨(some 15), .load false 1 (.t 14), none, []⟩,
       ⟨(some 16), .fa 4 (.t 3), none, []⟩,
       ⟨(some 17), .load false 1 (.t 16), none, []⟩,
       ⟨(some 18), .ia 5 (.t 17) (.k (.int .i64 1)), none, []⟩,
       ⟨(some 19), .load true 5 (.t 18), none, []⟩,
       ⟨(some 20), .fa 1 (.t 1), none, []⟩,
       ⟨(some 21), .load false 1 (.t 20), none, []⟩,
       ⟨(some 22), .fa 2 (.t 1), none, []⟩,
       ⟨(some 23), .load false 1 (.t 22), none, []⟩,
       ⟨(some 24), .fa 4 (.t 1), none, []⟩,
       ⟨(some 25), .load false 1 (.t 24), none, []⟩,
       ⟨(some 26), .ia 5 (.t 25) (.k (.int .i64 1)), none, []⟩,
       ⟨(some 27), .load true 5 (.t 26), none, []⟩,
       ⟨(some 28), .qcall n_avl_node [(.t 19), (.t 21), (.t 23), (.t 27)] [], none, []⟩,
       ⟨(some 29), .qcall n_avl_node [(.t 11), (.t 13), (.t 15), (.t 28)] [], none, []⟩,
       ⟨none, .store 5 (.t 2) (.t 29), none, []⟩])
     (.ret i_avl_right_r)))),
  [.cell 2 true 5], [], false, []⟩

def i_avl_Get_r : List Bool := [false, false, false, false, true, true, true, false, false, false, false, false, false, false, false, false, false, false, false, false, false, false, false, false, false, false, false, false, false, false, false, false, false, false, false, false, false, false, false, false]
def i_avl_Get_j2 : List Bool := [false, true, true, false, false, false, false, false, false, false, false, false, false, false, false, false, false, false, false, false, false, false, false, false, false, false, false, false, false, false, false, false, false, false, false, false, false, false, false, false]
def i_avl_Get_j1 : List Bool := [false, true, true, false, false, false, false, false, false, false, false, false, false, false, false, false, false, false, false, false, false, false, false, false, false, false, false, false, false, false, false, false, false, false, false, false, false, false, false, false]
def i_avl_Get_k0 : List Bool := [false, true, true, false, false, false, false, false, false, false, false, false, false, false, false, false, false, false, false, false, false, false, false, false, false, false, false, false, false, false, false, false, false, false, false, false, false, false, false, false]
def i_avl_Get_j0 : List Bool := [false, false, false, false, false, false, false, false, false, false, false, false, false, false, false, false, false, false, false, false, false, false, false, false, false, false, false, false, false, false, false, false, false, false, false, false, false, false, false, false]
abbrev s_avl_Get_R (t4 t5 t6 : AV) (h : Heap) : St := ⟨[.undef, .undef, .undef, .undef, t4, t5, t6, .undef, .undef, .undef, .undef, .undef, .undef, .undef, .undef, .undef, .undef, .undef, .undef, .undef, .undef, .undef, .undef, .undef, .undef, .undef, .undef, .undef, .undef, .undef, .undef, .undef, .undef, .undef, .undef, .undef, .undef, .undef, .undef, .undef], h⟩
abbrev s_avl_Get_K0 (t1 t2 : AV) (h : Heap) : St := ⟨[.undef, t1, t2, .undef, .undef, .undef, .undef, .undef, .undef, .undef, .undef, .undef, .undef, .undef, .undef, .undef, .undef, .undef, .undef, .undef, .undef, .undef, .undef, .undef, .undef, .undef, .undef, .undef, .undef, .undef, .undef, .undef, .undef, .undef, .undef, .undef, .undef, .undef, .undef, .undef], h⟩
def i_avl_Get_b0 : IR :=
  (.seq
   (.seq
    (.reg [] [
      ⟨(some 15), .fa 4 (.t 2), none, []⟩,
      ⟨(some 16), .load false 1 (.t 15), none, []⟩,
      ⟨(some 17), .len false (.t 16), none, []⟩,
      ⟨(some 18), .bin .plain .gtr (.t 17) (.k (.int .i64 0)), none, []⟩])
    (.cond (.t 18)
     .skip
     (.exit 0 i_avl_Get_j0)))
   (.block 1 i_avl_Get_j1
    (.seq
     (.reg [] [
       ⟨(some 19), .cn (.t 1), none, []⟩,
       ⟨(some 20), .fa 1 (.t 2), none, []⟩,
       ⟨(some 21), .load false 1 (.t 20), none, []⟩,
       ⟨(some 22), .qcall n_bytes_Compare [(.t 19), (.t 21)] [], none, []⟩,
       ⟨(some 8), .mv (.t 22), none, []⟩])
     (.block 2 i_avl_Get_j2
      (.seq
       (.reg [] [
         ⟨(some 28), .mv (.t 8), none, []⟩,
         ⟨(some 29), .bin .plain .eql (.t 28) (.k (.int .i64 0)), none, []⟩,
         ⟨(some 27), .mv (.t 29), none, []⟩])
       (.cond (.t 27)
        (.seq
         (.reg [] [
           ⟨(some 30), .fa 2 (.t 2), none, []⟩,
           ⟨(some 31), .load false 1 (.t 30), none, []⟩,
           ⟨(some 32), .qcall n_slices_Clone_sl_byte_byte [(.t 31)] [], none, []⟩,
           ⟨(some 4), .cn (.t 32), none, []⟩,
           ⟨(some 5), .mv (.k (.bool true)), none, []⟩,
           ⟨(some 6), .mv (.k .nilIface), none, []⟩])
         (.ret i_avl_Get_r))
        (.seq
         (.reg [] [
           ⟨(some 34), .mv (.t 8), none, []⟩,
           ⟨(some 35), .bin .plain .lss (.t 34) (.k (.int .i64 0)), none, []⟩,
           ⟨(some 33), .mv (.t 35), none, []⟩])
         (.cond (.t 33)
          (.reg [] [
            ⟨(some 36), .fa 4 (.t 2), none, []⟩,
            ⟨(some 37), .load false 1 (.t 36), none, []⟩,
            ⟨(some 38), .ia 5 (.t 37) (.k (.int .i64 0)), none, []⟩,
            ⟨(some 39), .load true 5 (.t 38), none, []⟩,
            ⟨none, .store 5 (.t 2) (.t 39), none, []⟩])
          (.reg [] [
            ⟨(some 23), .fa 4 (.t 2), none, []⟩,
            ⟨(some 24), .load false 1 (.t 23), none, []⟩,
            ⟨(some 25), .ia 5 (.t 24) (.k (.int .i64 1)), none, []⟩,
            ⟨(some 26), .load true 5 (.t 25), none, []⟩,
            ⟨none, .store 5 (.t 2) (.t 26), none, []⟩])))))))))

abbrev s_avl_Get_J0 (h : Heap) : St := ⟨[.undef, .undef, .undef, .undef, .undef, .undef, .undef, .undef, .undef, .undef, .undef, .undef, .undef, .undef, .undef, .undef, .undef, .undef, .undef, .undef, .undef, .undef, .undef, .undef, .undef, .undef, .undef, .undef, .undef, .undef, .undef, .undef, .undef, .undef, .undef, .undef, .undef, .undef, .undef, .undef], h⟩
/-- heartwood/avl.Get -/
def i_avl_Get : Ev.Fn := ⟨2, 40, 1,
  (.seq
   (.reg [] [
     ⟨(some 2), .box 0 5 (.t 0), none, []⟩,
     ⟨(some 4), .cn (.k (.slice none 0 0)), none, []⟩,
     ⟨(some 5), .mv (.k (.bool false)), none, []⟩,
     ⟨(some 6), .mv (.k .nilIface), none, []⟩])
   (.seq
    (.seq
     (.reg [] [
       ⟨(some 9), .load true 5 (.t 2), none, []⟩,
       ⟨(some 10), .cn (.t 1), none, []⟩,
       ⟨(some 11), .qcall n_avl_asked [(.t 9), (.t 10), (.k (.slice none 0 0))] [], none, []⟩,
       ⟨(some 7), .mv (.t 11), none, []⟩])
     (.seq
      (.reg [] [
        ⟨(some 12), .mv (.t 7), none, []⟩,
        ⟨(some 13), .bin (.iface ty_api_Code true) .neq (.t 12) (.k .nilIface), none, []⟩])
      (.cond (.t 13)
       (.seq
        (.reg [] [
          ⟨(some 14), .mv (.t 7), none, []⟩,
          ⟨(some 4), .cn (.k (.slice none 0 0)), none, []⟩,
          ⟨(some 5), .mv (.k (.bool false)), none, []⟩,
          ⟨(some 6), .mv (.t 14), none, []⟩])
        (.ret i_avl_Get_r))
       .skip)))
    (.seq
     (.block 0 i_avl_Get_j0
      (.loop i_avl_Get_k0 i_avl_Get_b0))
     (.seq
      (.reg [] [
        ⟨(some 4), .cn (.k (.slice none 0 0)), none, []⟩,
        ⟨(some 5), .mv (.k (.bool false)), none, []⟩,
        ⟨(some 6), .mv (.k .nilIface), none, []⟩])
      (.ret i_avl_Get_r))))),
  [.tmp 4, .tmp 5, .tmp 6], [], false, []⟩

def i_law05_small_r : List Bool := [false, false, true, false, false, false]
/-- heartwood/heartwoodlaw05.small -/
def i_law05_small : Ev.Fn := ⟨1, 6, 1,
  (.seq
   (.reg [] [
     ⟨(some 1), .box 0 5 (.t 0), none, []⟩,
     ⟨(some 2), .mv (.k (.bool false)), none, []⟩])
   (.seq
    (.reg [] [
      ⟨(some 3), .load true 5 (.t 1), none, []⟩,
      ⟨(some 4), .qcall n_ref04_Light [(.t 3), (.k (.int .i64 300)), (.k (.int .i64 100))] [], none, []⟩,
      ⟨(some 5), .bin .plain .geq (.t 4) (.k (.int .i64 0)), none, []⟩,
      ⟨(some 2), .mv (.t 5), none, []⟩])
    (.ret i_law05_small_r))),
  [.tmp 2], [], false, []⟩

end Go.Proofs.Ytebiajdkgpcidaa
