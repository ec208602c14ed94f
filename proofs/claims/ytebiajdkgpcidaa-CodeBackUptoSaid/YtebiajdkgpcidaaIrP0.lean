/- The IR of the seat's functions, printed by a program of this session. -/
import Derived.Test.YtebiajdkgpcidaaEvE
set_option linter.unusedVariables false
namespace Go.Proofs.Ytebiajdkgpcidaa
open Go.Ev

abbrev ty_uint8 : Nat := 5
abbrev ty_api_Tree : Nat := 33
abbrev ty_api_Code : Nat := 41
abbrev n_law10_CodeWrites : Nat := 12
abbrev n_law10_CodeReads : Nat := 13
abbrev n_law10_CodeBack : Nat := 14
abbrev n_ref04_Light : Nat := 24
abbrev n_ref04_Same : Nat := 31
abbrev n_law00_Code : Nat := 38
abbrev n_law10_up : Nat := 41
abbrev n_law10_small : Nat := 42
abbrev n_code_Write : Nat := 43
abbrev n_ref10_Write : Nat := 44
abbrev n_code_Read : Nat := 45
abbrev n_ref10_Read : Nat := 46
abbrev n_slices_Clone_sl_byte_byte : Nat := 50
abbrev n_ref04_Check : Nat := 54
abbrev n_tree_Check : Nat := 63
abbrev n_code_long : Nat := 64
abbrev n_code_write : Nat := 65
abbrev n_ref10_long : Nat := 66
abbrev n_ref10_bytes : Nat := 67
abbrev n_coder_NewReader : Nat := 68
abbrev n_code_Read_1 : Nat := 69
abbrev n_coder_Reader_Byte : Nat := 70
abbrev n_coder_Reader_Bytes : Nat := 71
abbrev n_coder_Reader_End : Nat := 72
abbrev n_ref10_read : Nat := 73
abbrev n_ref02_Reader_End : Nat := 74
abbrev n_ref04_Deep : Nat := 78
abbrev n_ref04_Formed : Nat := 79
abbrev n_tree_deep : Nat := 86
abbrev n_tree_formed : Nat := 87
abbrev n_coder_Bytes : Nat := 88
abbrev n_ref02_Bytes : Nat := 89
abbrev n_coder_Reader_take : Nat := 90
abbrev n_coder_Reader_Number : Nat := 91
abbrev n_ref02_Reader_Byte : Nat := 92
abbrev n_ref02_Reader_Bytes : Nat := 93
abbrev n_slices_ContainsFunc_sl_api_Tree_api_Tree : Nat := 94
abbrev n_tree_deep_1 : Nat := 99
abbrev n_tree_formed_1 : Nat := 100
abbrev n_coder_Number : Nat := 101
abbrev n_ref02_Number : Nat := 102
abbrev n_ref02_Reader_Number : Nat := 103
abbrev n_slices_IndexFunc_sl_api_Tree_api_Tree : Nat := 104
def i_law10_CodeWrites_r : List Bool := [false, false, true, false, false, false, false, false, false, false, false, false, false, false, false, false, false, false, false, false, false, false, false, false, false, false, false, false, false, false, false, false, false, false, false, false, false, false, false]
/-- heartwood/heartwoodlaw10.CodeWrites -/
def i_law10_CodeWrites : Ev.Fn := ⟨1, 39, 1,
  (.seq
   (.reg [] [
     ⟨(some 1), .box 0 5 (.t 0), none, []⟩,
     ⟨(some 2), .mv (.k (.bool false)), none, []⟩])
   (.seq
    (.reg [] [
      ⟨(some 9), .qcall n_law10_up [] [], none, []⟩,
      ⟨(some 3), .mv (.t 9), none, []⟩])
    (.seq
     (.reg [] [
       ⟨(some 10), .load true 5 (.t 1), none, []⟩,
       ⟨(some 11), .qcall n_law10_small [(.t 10)] [], none, []⟩,
       ⟨(some 4), .mv (.t 11), none, []⟩])
     (.seq
      (.seq
       (.reg [] [
         ⟨(some 12), .mv (.t 4), none, []⟩,
         ⟨(some 13), .un .not (.t 12), none, []⟩])
       (.cond (.t 13)
        (.seq
         (.reg [] [
           ⟨(some 14), .mv (.t 3), none, []⟩,
           ⟨(some 2), .mv (.t 14), none, []⟩])
         (.ret i_law10_CodeWrites_r))
        .skip))
      (.seq
       (.reg [] [
         ⟨(some 16), .load true 5 (.t 1), none, []⟩,
         ⟨(some 17), .qcall n_code_Write [(.t 16)] [], none, []⟩,
         ⟨(some 15), .mv (.t 17), none, []⟩,
         ⟨(some 18), .ext 0 (.t 15), none, []⟩,
         ⟨(some 19), .ext 1 (.t 15), none, []⟩,
         ⟨(some 5), .cn (.t 18), none, []⟩,
         ⟨(some 6), .mv (.t 19), none, []⟩])
       (.seq
        (.reg [] [
          ⟨(some 21), .load true 5 (.t 1), none, []⟩,
          ⟨(some 22), .qcall n_ref10_Write [(.t 21)] [], none, []⟩,
          ⟨(some 20), .mv (.t 22), none, []⟩,
          ⟨(some 23), .ext 0 (.t 20), none, []⟩,
          ⟨(some 24), .ext 1 (.t 20), none, []⟩,
          ⟨(some 7), .cn (.t 23), none, []⟩,
          ⟨(some 8), .mv (.t 24), none, []⟩])
        (.seq
         (.reg [] [
           ⟨(some 25), .mv (.t 3), none, []⟩,
           ⟨(some 26), .mv (.t 25), none, []⟩,
           ⟨(some 27), .cn (.t 5), (some (26, true)), []⟩,
           ⟨(some 28), .b2s (.t 27), (some (26, true)), []⟩,
           ⟨(some 29), .cn (.t 7), (some (26, true)), []⟩,
           ⟨(some 30), .b2s (.t 29), (some (26, true)), []⟩,
           ⟨(some 31), .bin .plain .eql (.t 28) (.t 30), (some (26, true)), []⟩,
           ⟨(some 32), .pick (.t 26) (.t 31) (.k (.bool false)), none, []⟩,
           ⟨(some 33), .mv (.t 32), none, []⟩,
           ⟨(some 34), .mv (.t 6), (some (33, true)), []⟩,
           ⟨(some 35), .qcall n_law00_Code [(.t 34)] [], (some (33, true)), []⟩,
           ⟨(some 36), .mv (.t 8), (some (33, true)), []⟩,
           ⟨(some 37), .bin .plain .eql (.t 35) (.t 36), (some (33, true)), []⟩,
           ⟨(some 38), .pick (.t 33) (.t 37) (.k (.bool false)), none, []⟩,
           ⟨(some 2), .mv (.t 38), none, []⟩])
         (.ret i_law10_CodeWrites_r)))))))),
  [.tmp 2], [], false, []⟩

def i_law10_up_r : List Bool := [true, false, false, false, false, false, false, false, false, false, false, false, false, false, false, false, false, false, false, false, false, false, false, false, false, false, false, false, false, false, false, false]
/-- heartwood/heartwoodlaw10.up -/
def i_law10_up : Ev.Fn := ⟨0, 32, 4,
  (.seq
   (.reg [] [
     ⟨(some 0), .mv (.k (.bool false)), none, []⟩])
   (.seq
    (.reg [] [
      ⟨(some 6), .lit 0 ty_uint8 1 1 [(.int .u8 0)] [(0, (.k (.int .u8 97)))], none, []⟩,
      ⟨(some 7), .markb (.t 6), none, []⟩,
      ⟨(some 8), .lit 1 ty_uint8 1 1 [(.int .u8 0)] [(0, (.k (.int .u8 98)))], none, []⟩,
      ⟨(some 9), .markb (.t 8), none, []⟩,
      ⟨(some 10), .make 2 ty_api_Tree 5 104 [(.int .i64 0), (.slice none 0 0), (.slice none 0 0), (.slice none 0 0), (.slice none 0 0)] (.k (.int .i64 2)) (.k (.int .i64 2)), none, []⟩,
      ⟨(some 11), .build [(.int .i64 0), (.slice none 0 0), (.slice none 0 0), (.slice none 0 0), (.slice none 0 0)] [(0, 1, (.k (.int .i64 1))), (1, 1, (.t 7)), (2, 1, (.t 9)), (4, 1, (.t 10))], none, [10]⟩,
      ⟨(some 12), .qcall n_code_Write [(.t 11)] [], none, []⟩,
      ⟨(some 5), .mv (.t 12), none, []⟩,
      ⟨(some 13), .ext 0 (.t 5), none, []⟩,
      ⟨(some 14), .ext 1 (.t 5), none, []⟩,
      ⟨(some 1), .cn (.t 13), none, []⟩,
      ⟨(some 2), .mv (.t 14), none, []⟩])
    (.seq
     (.reg [] [
       ⟨(some 16), .litd 1 2 [(.int .u8 0)] [(0, (.k (.int .u8 0))), (1, (.k (.int .u8 0)))], none, []⟩,
       ⟨(some 17), .qcall n_code_Read [(.t 16)] [], none, []⟩,
       ⟨(some 15), .mv (.t 17), none, []⟩,
       ⟨(some 18), .ext 0 (.t 15), none, []⟩,
       ⟨(some 19), .ext 1 (.t 15), none, []⟩,
       ⟨(some 3), .new 3 [(.int .i64 0), (.slice none 0 0), (.slice none 0 0), (.slice none 0 0), (.slice none 0 0)], none, []⟩,
       ⟨none, .store 5 (.t 3) (.t 18), none, []⟩,
       ⟨(some 4), .mv (.t 19), none, []⟩])
     (.seq
      (.reg [] [
        ⟨(some 20), .mv (.t 2), none, []⟩,
        ⟨(some 21), .bin (.iface ty_api_Code true) .eql (.t 20) (.k .nilIface), none, []⟩,
        ⟨(some 22), .mv (.t 21), none, []⟩,
        ⟨(some 23), .cn (.t 1), (some (22, true)), []⟩,
        ⟨(some 24), .b2s (.t 23), (some (22, true)), []⟩,
        ⟨(some 25), .bin .plain .eql (.t 24) (.k (.string ⟨#[1, 1, 97, 1, 98, 0, 0]⟩)), (some (22, true)), []⟩,
        ⟨(some 26), .pick (.t 22) (.t 25) (.k (.bool false)), none, []⟩,
        ⟨(some 27), .mv (.t 26), none, []⟩,
        ⟨(some 28), .mv (.t 4), (some (27, true)), []⟩,
        ⟨(some 29), .mki ty_api_Code (.k (.int .i64 4)), (some (27, true)), []⟩,
        ⟨(some 30), .bin (.iface ty_api_Code false) .eql (.t 28) (.t 29), (some (27, true)), []⟩,
        ⟨(some 31), .pick (.t 27) (.t 30) (.k (.bool false)), none, []⟩,
        ⟨(some 0), .mv (.t 31), none, []⟩])
      (.ret i_law10_up_r))))),
  [.tmp 0], [], false, []⟩

def i_code_Write_r : List Bool := [false, false, true, true, false, false, false, false, false, false, false, false, false, false, false]
/-- heartwood/code.Write -/
def i_code_Write : Ev.Fn := ⟨1, 15, 2,
  (.seq
   (.reg [] [
     ⟨(some 1), .box 0 5 (.t 0), none, []⟩,
     ⟨(some 2), .cn (.k (.slice none 0 0)), none, []⟩,
     ⟨(some 3), .mv (.k .nilIface), none, []⟩])
   (.seq
    (.seq
     (.reg [] [
       ⟨(some 5), .load true 5 (.t 1), none, []⟩,
       ⟨(some 6), .qcall n_tree_Check [(.t 5)] [], none, []⟩,
       ⟨(some 4), .mv (.t 6), none, []⟩])
     (.seq
      (.reg [] [
        ⟨(some 7), .mv (.t 4), none, []⟩,
        ⟨(some 8), .bin (.iface ty_api_Code true) .neq (.t 7) (.k .nilIface), none, []⟩])
      (.cond (.t 8)
       (.seq
        (.reg [] [
          ⟨(some 9), .mv (.t 4), none, []⟩,
          ⟨(some 2), .cn (.k (.slice none 0 0)), none, []⟩,
          ⟨(some 3), .mv (.t 9), none, []⟩])
        (.ret i_code_Write_r))
       .skip)))
    (.seq
     (.seq
      (.reg [] [
        ⟨(some 10), .load true 5 (.t 1), none, []⟩,
        ⟨(some 11), .qcall n_code_long [(.t 10)] [], none, []⟩])
      (.cond (.t 11)
       (.seq
        (.reg [] [
          ⟨(some 12), .mki ty_api_Code (.k (.int .i64 2)), none, []⟩,
          ⟨(some 2), .cn (.k (.slice none 0 0)), none, []⟩,
          ⟨(some 3), .mv (.t 12), none, []⟩])
        (.ret i_code_Write_r))
       .skip))
     (.seq
      (.reg [] [
        ⟨(some 13), .load true 5 (.t 1), none, []⟩,
        ⟨(some 14), .qcall n_code_write [(.k (.slice none 0 0)), (.t 13)] [1], none, []⟩,
        ⟨(some 2), .cn (.t 14), none, [14]⟩,
        ⟨(some 3), .mv (.k .nilIface), none, []⟩])
      (.ret i_code_Write_r))))),
  [.tmp 2, .tmp 3], [], false, []⟩

def i_tree_Check_r : List Bool := [false, false, true, false, false, false, false, false, false, false, false, false]
def i_tree_Check_j0 : List Bool := [false, false, false, false, false, false, false, false, false, false, false, false]
/-- heartwood/tree.Check -/
def i_tree_Check : Ev.Fn := ⟨1, 12, 1,
  (.seq
   (.reg [] [
     ⟨(some 1), .box 0 5 (.t 0), none, []⟩,
     ⟨(some 2), .mv (.k .nilIface), none, []⟩])
   (.seq
    (.block 0 i_tree_Check_j0
     (.seq
      (.reg [] [
        ⟨(some 4), .load true 5 (.t 1), none, []⟩,
        ⟨(some 5), .qcall n_tree_deep [(.t 4), (.k (.int .i64 64))] [], none, []⟩,
        ⟨(some 3), .mv (.t 5), none, []⟩])
      (.cond (.t 3)
       (.seq
        (.reg [] [
          ⟨(some 6), .mki ty_api_Code (.k (.int .i64 5)), none, []⟩,
          ⟨(some 2), .mv (.t 6), none, []⟩])
        (.ret i_tree_Check_r))
       (.seq
        (.reg [] [
          ⟨(some 8), .load true 5 (.t 1), none, []⟩,
          ⟨(some 9), .qcall n_tree_formed [(.t 8)] [], none, []⟩,
          ⟨(some 10), .un .not (.t 9), none, []⟩,
          ⟨(some 7), .mv (.t 10), none, []⟩])
        (.cond (.t 7)
         (.seq
          (.reg [] [
            ⟨(some 11), .mki ty_api_Code (.k (.int .i64 3)), none, []⟩,
            ⟨(some 2), .mv (.t 11), none, []⟩])
          (.ret i_tree_Check_r))
         .skip)))))
    (.seq
     (.reg [] [
       ⟨(some 2), .mv (.k .nilIface), none, []⟩])
     (.ret i_tree_Check_r)))),
  [.tmp 2], [], false, []⟩

def i_tree_deep_r : List Bool := [false, false, false, false, true, false, false, false, false, false, false, false, false, false, false, false, false, false, false, false, false, false, false, false, false, false, false, false, false]
/-- heartwood/tree.deep -/
def i_tree_deep : Ev.Fn := ⟨2, 29, 2,
  (.seq
   (.reg [] [
     ⟨(some 2), .box 0 5 (.t 0), none, []⟩,
     ⟨(some 3), .box 1 1 (.t 1), none, []⟩,
     ⟨(some 4), .mv (.k (.bool false)), none, []⟩])
   (.seq
    (.reg [] [
      ⟨(some 6), .fa 0 (.t 2), none, []⟩,
      ⟨(some 7), .load false 1 (.t 6), none, []⟩,
      ⟨(some 8), .bin .plain .eql (.t 7) (.k (.int .i64 1)), none, []⟩,
      ⟨(some 9), .mv (.t 8), none, []⟩,
      ⟨(some 10), .fa 0 (.t 2), (some (9, false)), []⟩,
      ⟨(some 11), .load false 1 (.t 10), (some (9, false)), []⟩,
      ⟨(some 12), .bin .plain .eql (.t 11) (.k (.int .i64 2)), (some (9, false)), []⟩,
      ⟨(some 13), .pick (.t 9) (.k (.bool true)) (.t 12), none, []⟩,
      ⟨(some 14), .mv (.t 13), none, []⟩,
      ⟨(some 15), .fa 4 (.t 2), (some (14, false)), []⟩,
      ⟨(some 16), .load false 1 (.t 15), (some (14, false)), []⟩,
      ⟨(some 17), .len false (.t 16), (some (14, false)), []⟩,
      ⟨(some 18), .bin .plain .gtr (.t 17) (.k (.int .i64 0)), (some (14, false)), []⟩,
      ⟨(some 19), .pick (.t 14) (.k (.bool true)) (.t 18), none, []⟩,
      ⟨(some 5), .mv (.t 19), none, []⟩])
    (.seq
     (.seq
      (.reg [] [
        ⟨(some 20), .mv (.t 5), none, []⟩,
        ⟨(some 21), .mv (.t 20), none, []⟩,
        ⟨(some 22), .load false 1 (.t 3), (some (21, true)), []⟩,
        ⟨(some 23), .bin .plain .lss (.t 22) (.k (.int .i64 1)), (some (21, true)), []⟩,
        ⟨(some 24), .pick (.t 21) (.t 23) (.k (.bool false)), none, []⟩])
      (.cond (.t 24)
       (.seq
        (.reg [] [
          ⟨(some 4), .mv (.k (.bool true)), none, []⟩])
        (.ret i_tree_deep_r))
       .skip))
     (.seq
      (.reg [] [
        ⟨(some 25), .fa 4 (.t 2), none, []⟩,
        ⟨(some 26), .load false 1 (.t 25), none, []⟩,
        ⟨(some 27), .mkf n_tree_deep_1 [(.t 3)], none, []⟩,
        ⟨(some 28), .call n_slices_ContainsFunc_sl_api_Tree_api_Tree [(.t 26), (.t 27)] [], none, []⟩,
        ⟨(some 4), .mv (.t 28), none, []⟩])
      (.ret i_tree_deep_r))))),
  [.tmp 4], [], false, []⟩

def i_tree_deep_1_r : List Bool := [false, false, false, true, false, false, false, false]
/-- heartwood/tree.deep$1 -/
def i_tree_deep_1 : Ev.Fn := ⟨2, 8, 1,
  (.seq
   (.reg [] [
     ⟨(some 2), .box 0 5 (.t 0), none, []⟩,
     ⟨(some 3), .mv (.k (.bool false)), none, []⟩])
   (.seq
    (.reg [] [
      ⟨(some 4), .load true 5 (.t 2), none, []⟩,
      ⟨(some 5), .load false 1 (.t 1), none, []⟩,
      ⟨(some 6), .bin .plain .sub (.t 5) (.k (.int .i64 1)), none, []⟩,
      ⟨(some 7), .qcall n_tree_deep [(.t 4), (.t 6)] [], none, [4]⟩,
      ⟨(some 3), .mv (.t 7), none, []⟩])
    (.ret i_tree_deep_1_r))),
  [.tmp 3], [], false, []⟩

def i_slices_ContainsFunc_sl_api_Tree_api_Tree_r : List Bool := [false, false, false, false, true, false, false, false, false]
/-- slices.ContainsFunc[[]heartwood/api.Tree,heartwood/api.Tree] -/
def i_slices_ContainsFunc_sl_api_Tree_api_Tree : Ev.Fn := ⟨2, 9, 0,
  (.seq
   (.reg [] [
     ⟨(some 4), .mv (.k (.bool false)), none, []⟩])
   (.seq
    (.reg [] [
      ⟨(some 5), .cn (.t 0), none, []⟩,
      ⟨(some 6), .mv (.t 1), none, []⟩,
      ⟨(some 7), .call n_slices_IndexFunc_sl_api_Tree_api_Tree [(.t 5), (.t 6)] [], none, []⟩,
      ⟨(some 8), .bin .plain .geq (.t 7) (.k (.int .i64 0)), none, []⟩,
      ⟨(some 4), .mv (.t 8), none, []⟩])
    (.ret i_slices_ContainsFunc_sl_api_Tree_api_Tree_r))),
  [.tmp 4], [], false, []⟩

def i_slices_IndexFunc_sl_api_Tree_api_Tree_r : List Bool := [false, false, false, false, true, false, false, false, false, false, false, false, false, false, false, false, false, false, false]
def i_slices_IndexFunc_sl_api_Tree_api_Tree_j1 : List Bool := [true, true, false, false, false, false, false, true, true, false, false, false, false, false, false, false, false, false, false]
def i_slices_IndexFunc_sl_api_Tree_api_Tree_k0 : List Bool := [true, true, false, false, false, false, false, true, true, false, false, false, false, false, false, false, false, false, false]
def i_slices_IndexFunc_sl_api_Tree_api_Tree_j0 : List Bool := [false, false, false, false, false, false, false, false, false, false, false, false, false, false, false, false, false, false, false]
abbrev s_slices_IndexFunc_sl_api_Tree_api_Tree_R (t4 : AV) (h : Heap) : St := ⟨[.undef, .undef, .undef, .undef, t4, .undef, .undef, .undef, .undef, .undef, .undef, .undef, .undef, .undef, .undef, .undef, .undef, .undef, .undef], h⟩
abbrev s_slices_IndexFunc_sl_api_Tree_api_Tree_K0 (t0 t1 t7 t8 : AV) (h : Heap) : St := ⟨[t0, t1, .undef, .undef, .undef, .undef, .undef, t7, t8, .undef, .undef, .undef, .undef, .undef, .undef, .undef, .undef, .undef, .undef], h⟩
def i_slices_IndexFunc_sl_api_Tree_api_Tree_b0 : IR :=
  (.seq
   (.reg [] [
     ⟨(some 9), .bin .plain .lss (.t 8) (.t 7), none, []⟩])
   (.seq
    (.cond (.t 9)
     .skip
     (.exit 0 i_slices_IndexFunc_sl_api_Tree_api_Tree_j0))
    (.seq
     (.block 1 i_slices_IndexFunc_sl_api_Tree_api_Tree_j1
      (.seq
       (.reg [] [
         ⟨(some 10), .mv (.t 8), none, []⟩,
         ⟨(some 5), .mv (.t 10), none, []⟩])
       (.seq
        (.reg [] [
          ⟨(some 11), .mv (.t 1), none, []⟩,
          ⟨(some 12), .cn (.t 0), none, []⟩,
          ⟨(some 13), .mv (.t 5), none, []⟩,
          ⟨(some 14), .ia 5 (.t 12) (.t 13), none, []⟩,
          ⟨(some 15), .load true 5 (.t 14), none, []⟩,
          ⟨(some 16), .callv (.t 11) [(.t 15)] [], none, [15]⟩])
        (.cond (.t 16)
         (.seq
          (.reg [] [
            ⟨(some 17), .mv (.t 5), none, []⟩,
            ⟨(some 4), .mv (.t 17), none, []⟩])
          (.ret i_slices_IndexFunc_sl_api_Tree_api_Tree_r))
         .skip))))
     (.reg [] [
       ⟨(some 18), .bin .plain .add (.t 8) (.k (.int .i64 1)), none, []⟩,
       ⟨(some 8), .mv (.t 18), none, []⟩]))))

abbrev s_slices_IndexFunc_sl_api_Tree_api_Tree_J0 (h : Heap) : St := ⟨[.undef, .undef, .undef, .undef, .undef, .undef, .undef, .undef, .undef, .undef, .undef, .undef, .undef, .undef, .undef, .undef, .undef, .undef, .undef], h⟩
/-- slices.IndexFunc[[]heartwood/api.Tree,heartwood/api.Tree] -/
def i_slices_IndexFunc_sl_api_Tree_api_Tree : Ev.Fn := ⟨2, 19, 0,
  (.seq
   (.reg [] [
     ⟨(some 4), .mv (.k (.int .i64 0)), none, []⟩])
   (.seq
    (.seq
     (.reg [] [
       ⟨(some 6), .cn (.t 0), none, []⟩,
       ⟨(some 7), .len false (.t 6), none, []⟩,
       ⟨(some 8), .mv (.k (.int .i64 0)), none, []⟩])
     (.block 0 i_slices_IndexFunc_sl_api_Tree_api_Tree_j0
      (.loop i_slices_IndexFunc_sl_api_Tree_api_Tree_k0 i_slices_IndexFunc_sl_api_Tree_api_Tree_b0)))
    (.seq
     (.reg [] [
       ⟨(some 4), .mv (.k (.int .i64 (-1))), none, []⟩])
     (.ret i_slices_IndexFunc_sl_api_Tree_api_Tree_r)))),
  [.tmp 4], [], false, []⟩

def i_tree_formed_r : List Bool := [false, false, true, false, false, false, false, false, false, false, false, false, false, false, false, false, false, false, false, false, false, false, false, false, false, false, false, false, false, false, false, false, false, false, false, false, false, false, false, false, false, false, false, false, false, false, false, false, false, false, false, false, false, false, false, false, false, false, false, false, false, false, false, false, false, false, false, false, false, false, false, false, false, false, false, false, false, false, false, false, false, false, false, false, false, false, false]
def i_tree_formed_j0 : List Bool := [false, true, false, true, false, false, false, false, false, false, false, false, false, false, false, false, false, false, false, false, false, false, false, false, false, false, false, false, false, false, false, false, false, false, false, false, false, false, false, false, false, false, false, false, false, false, false, false, false, false, false, false, false, false, false, false, false, false, false, false, false, false, false, false, false, false, false, false, false, false, false, false, false, false, false, false, false, false, false, false, false, false, false, false, false, false, false]
/-- heartwood/tree.formed -/
def i_tree_formed : Ev.Fn := ⟨1, 87, 1,
  (.seq
   (.reg [] [
     ⟨(some 1), .box 0 5 (.t 0), none, []⟩,
     ⟨(some 2), .mv (.k (.bool false)), none, []⟩])
   (.seq
    (.reg [] [
      ⟨(some 3), .mv (.k (.bool false)), none, []⟩])
    (.seq
     (.seq
      (.reg [] [
        ⟨(some 4), .fa 0 (.t 1), none, []⟩,
        ⟨(some 5), .load false 1 (.t 4), none, []⟩])
      (.block 0 i_tree_formed_j0
       (.seq
        (.reg [] [
          ⟨(some 7), .bin .plain .eql (.t 5) (.k (.int .i64 0)), none, []⟩,
          ⟨(some 6), .mv (.t 7), none, []⟩])
        (.cond (.t 6)
         (.reg [] [
           ⟨(some 8), .fa 1 (.t 1), none, []⟩,
           ⟨(some 9), .load false 1 (.t 8), none, []⟩,
           ⟨(some 10), .len false (.t 9), none, []⟩,
           ⟨(some 11), .fa 2 (.t 1), none, []⟩,
           ⟨(some 12), .load false 1 (.t 11), none, []⟩,
           ⟨(some 13), .len false (.t 12), none, []⟩,
           ⟨(some 14), .bin .plain .add (.t 10) (.t 13), none, []⟩,
           ⟨(some 15), .fa 3 (.t 1), none, []⟩,
           ⟨(some 16), .load false 1 (.t 15), none, []⟩,
           ⟨(some 17), .len false (.t 16), none, []⟩,
           ⟨(some 18), .bin .plain .add (.t 14) (.t 17), none, []⟩,
           ⟨(some 19), .fa 4 (.t 1), none, []⟩,
           ⟨(some 20), .load false 1 (.t 19), none, []⟩,
           ⟨(some 21), .len false (.t 20), none, []⟩,
           ⟨(some 22), .bin .plain .add (.t 18) (.t 21), none, []⟩,
           ⟨(some 23), .bin .plain .eql (.t 22) (.k (.int .i64 0)), none, []⟩,
           ⟨(some 3), .mv (.t 23), none, []⟩])
         (.seq
          (.reg [] [
            ⟨(some 25), .bin .plain .eql (.t 5) (.k (.int .i64 1)), none, []⟩,
            ⟨(some 24), .mv (.t 25), none, []⟩])
          (.cond (.t 24)
           (.reg [] [
             ⟨(some 26), .fa 1 (.t 1), none, []⟩,
             ⟨(some 27), .load false 1 (.t 26), none, []⟩,
             ⟨(some 28), .len false (.t 27), none, []⟩,
             ⟨(some 29), .bin .plain .leq (.t 28) (.k (.int .i64 80)), none, []⟩,
             ⟨(some 30), .mv (.t 29), none, []⟩,
             ⟨(some 31), .fa 2 (.t 1), (some (30, true)), []⟩,
             ⟨(some 32), .load false 1 (.t 31), (some (30, true)), []⟩,
             ⟨(some 33), .len false (.t 32), (some (30, true)), []⟩,
             ⟨(some 34), .bin .plain .leq (.t 33) (.k (.int .i64 1024)), (some (30, true)), []⟩,
             ⟨(some 35), .pick (.t 30) (.t 34) (.k (.bool false)), none, []⟩,
             ⟨(some 36), .mv (.t 35), none, []⟩,
             ⟨(some 37), .fa 3 (.t 1), (some (36, true)), []⟩,
             ⟨(some 38), .load false 1 (.t 37), (some (36, true)), []⟩,
             ⟨(some 39), .len false (.t 38), (some (36, true)), []⟩,
             ⟨(some 40), .bin .plain .eql (.t 39) (.k (.int .i64 0)), (some (36, true)), []⟩,
             ⟨(some 41), .pick (.t 36) (.t 40) (.k (.bool false)), none, []⟩,
             ⟨(some 42), .mv (.t 41), none, []⟩,
             ⟨(some 43), .fa 4 (.t 1), (some (42, true)), []⟩,
             ⟨(some 44), .load false 1 (.t 43), (some (42, true)), []⟩,
             ⟨(some 45), .len false (.t 44), (some (42, true)), []⟩,
             ⟨(some 46), .bin .plain .eql (.t 45) (.k (.int .i64 2)), (some (42, true)), []⟩,
             ⟨(some 47), .pick (.t 42) (.t 46) (.k (.bool false)), none, []⟩,
             ⟨(some 3), .mv (.t 47), none, []⟩])
           (.seq
            (.reg [] [
              ⟨(some 49), .bin .plain .eql (.t 5) (.k (.int .i64 2)), none, []⟩,
              ⟨(some 48), .mv (.t 49), none, []⟩])
            (.cond (.t 48)
             (.reg [] [
               ⟨(some 50), .fa 1 (.t 1), none, []⟩,
               ⟨(some 51), .load false 1 (.t 50), none, []⟩,
               ⟨(some 52), .len false (.t 51), none, []⟩,
               ⟨(some 53), .bin .plain .leq (.t 52) (.k (.int .i64 80)), none, []⟩,
               ⟨(some 54), .mv (.t 53), none, []⟩,
               ⟨(some 55), .fa 2 (.t 1), (some (54, true)), []⟩,
               ⟨(some 56), .load false 1 (.t 55), (some (54, true)), []⟩,
               ⟨(some 57), .len false (.t 56), (some (54, true)), []⟩,
               ⟨(some 58), .bin .plain .eql (.t 57) (.k (.int .i64 0)), (some (54, true)), []⟩,
               ⟨(some 59), .pick (.t 54) (.t 58) (.k (.bool false)), none, []⟩,
               ⟨(some 60), .mv (.t 59), none, []⟩,
               ⟨(some 61), .fa 4 (.t 1), (some (60, true)), []⟩,
               ⟨(some 62), .load false 1 (.t 61), (some (60, true)), []⟩,
               ⟨(some 63), .len false (.t 62), (some (60, true)), []⟩,
               ⟨(some 64), .bin .plain .eql (.t 63) (.k (.int .i64 2)), (some (60, true)), []⟩,
               ⟨(some 65), .pick (.t 60) (.t 64) (.k (.bool false)), none, []⟩,
               ⟨(some 3), .mv (.t 65), none, []⟩])
             (.seq
              (.reg [] [
                ⟨(some 67), .bin .plain .eql (.t 5) (.k (.int .i64 3)), none, []⟩,
                ⟨(some 66), .mv (.t 67), none, []⟩])
              (.cond (.t 66)
               (.reg [] [
                 ⟨(some 68), .fa 1 (.t 1), none, []⟩,
                 ⟨(some 69), .load false 1 (.t 68), none, []⟩,
                 ⟨(some 70), .len false (.t 69), none, []⟩,
                 ⟨(some 71), .fa 2 (.t 1), none, []⟩,
                 ⟨(some 72), .load false 1 (.t 71), none, []⟩,
                 ⟨(some 73), .len false (.t 72), none, []⟩,
                 ⟨(some 74), .bin .plain .add (.t 70) (.t 73), none, []⟩,
                 ⟨(some 75), .fa 4 (.t 1), none, []⟩,
                 ⟨(some 76), .load false 1 (.t 75), none, []⟩,
                 ⟨(some 77), .len false (.t 76), none, []⟩,
                 ⟨(some 78), .bin .plain .add (.t 74) (.t 77), none, []⟩,
                 ⟨(some 79), .bin .plain .eql (.t 78) (.k (.int .i64 0)), none, []⟩,
                 ⟨(some 3), .mv (.t 79), none, []⟩])
               .skip))))))))))
     (.seq
      (.reg [] [
        ⟨(some 80), .mv (.t 3), none, []⟩,
        ⟨(some 81), .mv (.t 80), none, []⟩,
        ⟨(some 82), .fa 4 (.t 1), (some (81, true)), []⟩,
        ⟨(some 83), .load false 1 (.t 82), (some (81, true)), []⟩,
        ⟨(some 84), .call n_slices_ContainsFunc_sl_api_Tree_api_Tree [(.t 83), (.f n_tree_formed_1)] [], (some (81, true)), []⟩,
        ⟨(some 85), .un .not (.t 84), (some (81, true)), []⟩,
        ⟨(some 86), .pick (.t 81) (.t 85) (.k (.bool false)), none, []⟩,
        ⟨(some 2), .mv (.t 86), none, []⟩])
      (.ret i_tree_formed_r))))),
  [.tmp 2], [], false, []⟩

def i_tree_formed_1_r : List Bool := [false, false, true, false, false, false]
/-- heartwood/tree.formed$1 -/
def i_tree_formed_1 : Ev.Fn := ⟨1, 6, 1,
  (.seq
   (.reg [] [
     ⟨(some 1), .box 0 5 (.t 0), none, []⟩,
     ⟨(some 2), .mv (.k (.bool false)), none, []⟩])
   (.seq
    (.reg [] [
      ⟨(some 3), .load true 5 (.t 1), none, []⟩,
      ⟨(some 4), .qcall n_tree_formed [(.t 3)] [], none, []⟩,
      ⟨(some 5), .un .not (.t 4), none, []⟩,
      ⟨(some 2), .mv (.t 5), none, []⟩])
    (.ret i_tree_formed_1_r))),
  [.tmp 2], [], false, []⟩

def i_code_long_r : List Bool := [false, false, true, false, false, false, false, false, false, false, false, false, false, false, false, false, false, false, false]
def i_code_long_j1 : List Bool := [false, false, false, false, false, false, false, false, false, false, true, true, true, false, false, false, false, false, false]
def i_code_long_k0 : List Bool := [false, false, false, false, false, false, false, false, false, false, true, true, true, false, false, false, false, false, false]
def i_code_long_j0 : List Bool := [false, false, false, false, false, false, false, false, false, false, false, false, false, false, false, false, false, false, false]
abbrev s_code_long_R (t2 : AV) (h : Heap) : St := ⟨[.undef, .undef, t2, .undef, .undef, .undef, .undef, .undef, .undef, .undef, .undef, .undef, .undef, .undef, .undef, .undef, .undef, .undef, .undef], h⟩
abbrev s_code_long_K0 (t10 t11 t12 : AV) (h : Heap) : St := ⟨[.undef, .undef, .undef, .undef, .undef, .undef, .undef, .undef, .undef, .undef, t10, t11, t12, .undef, .undef, .undef, .undef, .undef, .undef], h⟩
def i_code_long_b0 : IR :=
  (.seq
   (.reg [] [
     ⟨(some 13), .bin .plain .lss (.t 12) (.t 11), none, []⟩])
   (.seq
    (.cond (.t 13)
     .skip
     (.exit 0 i_code_long_j0))
    (.seq
     (.block 1 i_code_long_j1
      (.seq
       (.reg [] [
         ⟨(some 14), .ia 5 (.t 10) (.t 12), none, []⟩,
         ⟨(some 15), .load true 5 (.t 14), none, []⟩,
         ⟨(some 4), .new 1 [(.int .i64 0), (.slice none 0 0), (.slice none 0 0), (.slice none 0 0), (.slice none 0 0)], none, []⟩,
         ⟨none, .store 5 (.t 4) (.t 15), none, []⟩])
       (.seq
        (.reg [] [
          ⟨(some 16), .load true 5 (.t 4), none, []⟩,
          ⟨(some 17), .qcall n_code_long [(.t 16)] [], none, []⟩])
        (.cond (.t 17)
         (.seq
          (.reg [] [
            ⟨(some 2), .mv (.k (.bool true)), none, []⟩])
          (.ret i_code_long_r))
         .skip))))
     (.reg [] [
       ⟨(some 18), .bin .plain .add (.t 12) (.k (.int .i64 1)), none, []⟩,
       ⟨(some 12), .mv (.t 18), none, []⟩]))))

abbrev s_code_long_J0 (h : Heap) : St := ⟨[.undef, .undef, .undef, .undef, .undef, .undef, .undef, .undef, .undef, .undef, .undef, .undef, .undef, .undef, .undef, .undef, .undef, .undef, .undef], h⟩
/-- heartwood/code.long -/
def i_code_long : Ev.Fn := ⟨1, 19, 2,
  (.seq
   (.reg [] [
     ⟨(some 1), .box 0 5 (.t 0), none, []⟩,
     ⟨(some 2), .mv (.k (.bool false)), none, []⟩])
   (.seq
    (.seq
     (.reg [] [
       ⟨(some 5), .fa 3 (.t 1), none, []⟩,
       ⟨(some 6), .load false 1 (.t 5), none, []⟩,
       ⟨(some 7), .len false (.t 6), none, []⟩,
       ⟨(some 8), .bin .plain .gtr (.t 7) (.k (.int .i64 32)), none, []⟩])
     (.cond (.t 8)
      (.seq
       (.reg [] [
         ⟨(some 2), .mv (.k (.bool true)), none, []⟩])
       (.ret i_code_long_r))
      .skip))
    (.seq
     (.seq
      (.reg [] [
        ⟨(some 9), .fa 4 (.t 1), none, []⟩,
        ⟨(some 10), .load false 1 (.t 9), none, []⟩,
        ⟨(some 11), .len false (.t 10), none, []⟩,
        ⟨(some 12), .mv (.k (.int .i64 0)), none, []⟩])
      (.block 0 i_code_long_j0
       (.loop i_code_long_k0 i_code_long_b0)))
     (.seq
      (.reg [] [
        ⟨(some 2), .mv (.k (.bool false)), none, []⟩])
      (.ret i_code_long_r))))),
  [.tmp 2], [], false, []⟩

def i_code_write_r : List Bool := [false, false, false, false, true, false, false, false, false, false, false, false, false, false, false, false, false, false, false, false, false, false, false, false, false, false, false, false, false, false, false, false, false, false, false, false, false, false, false, false, false, false, false, false, false, false, false, false, false, false, false, false, false, false, false, false]
def i_code_write_j0 : List Bool := [true, false, false, true, false, false, false, false, false, false, false, false, false, false, false, false, false, false, false, false, false, false, false, false, false, false, false, false, false, false, false, false, false, false, false, false, false, false, false, false, false, false, false, false, false, false, false, false, false, false, false, false, false, false, false, false]
def i_code_write_j2 : List Bool := [true, false, false, false, false, false, false, false, false, false, false, false, false, false, false, false, false, false, false, false, false, false, false, false, false, false, false, false, false, false, false, false, false, false, false, false, false, false, false, false, false, false, false, false, false, true, true, true, false, false, false, false, false, false, false, false]
def i_code_write_k0 : List Bool := [true, false, false, false, false, false, false, false, false, false, false, false, false, false, false, false, false, false, false, false, false, false, false, false, false, false, false, false, false, false, false, false, false, false, false, false, false, false, false, false, false, false, false, false, false, true, true, true, false, false, false, false, false, false, false, false]
def i_code_write_j1 : List Bool := [true, false, false, false, false, false, false, false, false, false, false, false, false, false, false, false, false, false, false, false, false, false, false, false, false, false, false, false, false, false, false, false, false, false, false, false, false, false, false, false, false, false, false, false, false, false, false, false, false, false, false, false, false, false, false, false]
abbrev s_code_write_R (t4 : AV) (h : Heap) : St := ⟨[.undef, .undef, .undef, .undef, t4, .undef, .undef, .undef, .undef, .undef, .undef, .undef, .undef, .undef, .undef, .undef, .undef, .undef, .undef, .undef, .undef, .undef, .undef, .undef, .undef, .undef, .undef, .undef, .undef, .undef, .undef, .undef, .undef, .undef, .undef, .undef, .undef, .undef, .undef, .undef, .undef, .undef, .undef, .undef, .undef, .undef, .undef, .undef, .undef, .undef, .undef, .undef, .undef, .undef, .undef, .undef], h⟩
abbrev s_code_write_K0 (t0 t45 t46 t47 : AV) (h : Heap) : St := ⟨[t0, .undef, .undef, .undef, .undef, .undef, .undef, .undef, .undef, .undef, .undef, .undef, .undef, .undef, .undef, .undef, .undef, .undef, .undef, .undef, .undef, .undef, .undef, .undef, .undef, .undef, .undef, .undef, .undef, .undef, .undef, .undef, .undef, .undef, .undef, .undef, .undef, .undef, .undef, .undef, .undef, .undef, .undef, .undef, .undef, t45, t46, t47, .undef, .undef, .undef, .undef, .undef, .undef, .undef, .undef], h⟩
def i_code_write_b0 : IR :=
  (.seq
   (.reg [] [
     ⟨(some 48), .bin .plain .lss (.t 47) (.t 46), none, []⟩])
   (.seq
    (.cond (.t 48)
     .skip
     (.exit 1 i_code_write_j1))
    (.seq
     (.block 2 i_code_write_j2
      (.seq
       (.reg [] [
         ⟨(some 49), .ia 5 (.t 45) (.t 47), none, []⟩,
         ⟨(some 50), .load true 5 (.t 49), none, []⟩,
         ⟨(some 6), .new 2 [(.int .i64 0), (.slice none 0 0), (.slice none 0 0), (.slice none 0 0), (.slice none 0 0)], none, []⟩,
         ⟨none, .store 5 (.t 6) (.t 50), none, []⟩])
       (.reg [] [
         ⟨(some 51), .mv (.t 0), none, []⟩,
         ⟨(some 52), .load true 5 (.t 6), none, []⟩,
         ⟨(some 53), .call n_code_write [(.t 51), (.t 52)] [3], none, []⟩,
         ⟨(some 0), .mv (.t 53), none, []⟩])))
     (.reg [] [
       ⟨(some 54), .bin .plain .add (.t 47) (.k (.int .i64 1)), none, []⟩,
       ⟨(some 47), .mv (.t 54), none, []⟩]))))

abbrev s_code_write_J1 (t0 : AV) (h : Heap) : St := ⟨[t0, .undef, .undef, .undef, .undef, .undef, .undef, .undef, .undef, .undef, .undef, .undef, .undef, .undef, .undef, .undef, .undef, .undef, .undef, .undef, .undef, .undef, .undef, .undef, .undef, .undef, .undef, .undef, .undef, .undef, .undef, .undef, .undef, .undef, .undef, .undef, .undef, .undef, .undef, .undef, .undef, .undef, .undef, .undef, .undef, .undef, .undef, .undef, .undef, .undef, .undef, .undef, .undef, .undef, .undef, .undef], h⟩
/-- heartwood/code.write -/
def i_code_write : Ev.Fn := ⟨2, 56, 4,
  (.seq
   (.reg [] [
     ⟨(some 3), .box 0 5 (.t 1), none, []⟩,
     ⟨(some 4), .mv (.k (.slice none 0 0)), none, []⟩])
   (.seq
    (.reg [] [
      ⟨(some 7), .mv (.t 0), none, []⟩,
      ⟨(some 8), .fa 0 (.t 3), none, []⟩,
      ⟨(some 9), .load false 1 (.t 8), none, []⟩,
      ⟨(some 10), .conv .u8 (.t 9), none, []⟩,
      ⟨(some 11), .litd 1 1 [(.int .u8 0)] [(0, (.t 10))], none, []⟩,
      ⟨(some 12), .app 1 ty_uint8 1 1 (.t 7) (.t 11), none, []⟩,
      ⟨(some 0), .mv (.t 12), none, []⟩])
    (.seq
     (.seq
      (.reg [] [
        ⟨(some 13), .fa 0 (.t 3), none, []⟩,
        ⟨(some 14), .load false 1 (.t 13), none, []⟩])
      (.block 0 i_code_write_j0
       (.seq
        (.reg [] [
          ⟨(some 16), .bin .plain .eql (.t 14) (.k (.int .i64 1)), none, []⟩,
          ⟨(some 15), .mv (.t 16), none, []⟩])
        (.cond (.t 15)
         (.reg [(4, 6)] [
           ⟨(some 17), .mv (.t 0), none, []⟩,
           ⟨(some 18), .fa 1 (.t 3), none, []⟩,
           ⟨(some 19), .load false 1 (.t 18), none, []⟩,
           ⟨(some 20), .qcall n_coder_Bytes [(.t 19)] [], none, []⟩,
           ⟨(some 21), .app 1 ty_uint8 1 1 (.t 17) (.t 20), none, []⟩,
           ⟨(some 22), .fa 2 (.t 3), none, []⟩,
           ⟨(some 23), .load false 1 (.t 22), none, []⟩,
           ⟨(some 24), .qcall n_coder_Bytes [(.t 23)] [], none, []⟩,
           ⟨(some 25), .app 1 ty_uint8 1 1 (.t 21) (.t 24), none, []⟩,
           ⟨(some 0), .mv (.t 25), none, []⟩])
         (.seq
          (.reg [] [
            ⟨(some 27), .bin .plain .eql (.t 14) (.k (.int .i64 2)), none, []⟩,
            ⟨(some 26), .mv (.t 27), none, []⟩])
          (.cond (.t 26)
           (.reg [(4, 6)] [
             ⟨(some 28), .mv (.t 0), none, []⟩,
             ⟨(some 29), .fa 1 (.t 3), none, []⟩,
             ⟨(some 30), .load false 1 (.t 29), none, []⟩,
             ⟨(some 31), .qcall n_coder_Bytes [(.t 30)] [], none, []⟩,
             ⟨(some 32), .app 1 ty_uint8 1 1 (.t 28) (.t 31), none, []⟩,
             ⟨(some 33), .fa 3 (.t 3), none, []⟩,
             ⟨(some 34), .load false 1 (.t 33), none, []⟩,
             ⟨(some 35), .qcall n_coder_Bytes [(.t 34)] [], none, []⟩,
             ⟨(some 36), .app 1 ty_uint8 1 1 (.t 32) (.t 35), none, []⟩,
             ⟨(some 0), .mv (.t 36), none, []⟩])
           (.seq
            (.reg [] [
              ⟨(some 38), .bin .plain .eql (.t 14) (.k (.int .i64 3)), none, []⟩,
              ⟨(some 37), .mv (.t 38), none, []⟩])
            (.cond (.t 37)
             (.reg [] [
               ⟨(some 39), .mv (.t 0), none, []⟩,
               ⟨(some 40), .fa 3 (.t 3), none, []⟩,
               ⟨(some 41), .load false 1 (.t 40), none, []⟩,
               ⟨(some 42), .qcall n_coder_Bytes [(.t 41)] [], none, []⟩,
               ⟨(some 43), .app 1 ty_uint8 1 1 (.t 39) (.t 42), none, []⟩,
               ⟨(some 0), .mv (.t 43), none, []⟩])
             .skip))))))))
     (.seq
      (.seq
       (.reg [] [
         ⟨(some 44), .fa 4 (.t 3), none, []⟩,
         ⟨(some 45), .load false 1 (.t 44), none, []⟩,
         ⟨(some 46), .len false (.t 45), none, []⟩,
         ⟨(some 47), .mv (.k (.int .i64 0)), none, []⟩])
       (.block 1 i_code_write_j1
        (.loop i_code_write_k0 i_code_write_b0)))
      (.seq
       (.reg [] [
         ⟨(some 55), .mv (.t 0), none, []⟩,
         ⟨(some 4), .mv (.t 55), none, []⟩])
       (.ret i_code_write_r)))))),
  [.tmp 4], [true], false, [true, false]⟩

def i_coder_Bytes_r : List Bool := [false, false, true, false, false, false, false, false, false]
/-- heartwood/coder.Bytes -/
def i_coder_Bytes : Ev.Fn := ⟨1, 9, 2,
  (.seq
   (.reg [] [
     ⟨(some 2), .cn (.k (.slice none 0 0)), none, []⟩])
   (.seq
    (.reg [] [
      ⟨(some 3), .cn (.t 0), none, []⟩,
      ⟨(some 4), .len false (.t 3), none, []⟩,
      ⟨(some 5), .conv .u64 (.t 4), none, []⟩,
      ⟨(some 6), .qcall n_coder_Number [(.t 5)] [0], none, []⟩,
      ⟨(some 7), .cn (.t 0), none, []⟩,
      ⟨(some 8), .app 1 ty_uint8 1 1 (.t 6) (.t 7), none, []⟩,
      ⟨(some 2), .cn (.t 8), none, [8]⟩])
    (.ret i_coder_Bytes_r))),
  [.tmp 2], [], false, []⟩

def i_coder_Number_r : List Bool := [false, false, true, false, false, false, false, false, false, false, false, false, false, false, false, false, false, false, false, false, false, false, false, false, false, false, false, false, false, false, false, false, false, false, false, false, false, false, false, false, false, false, false]
def i_coder_Number_j1 : List Bool := [true, false, false, true, false, false, false, false, false, false, false, false, false, false, false, false, false, false, false, false, false, false, false, false, false, false, false, false, false, false, false, false, false, false, false, false, false, false, false, false, false, false, false]
def i_coder_Number_k0 : List Bool := [true, false, false, true, false, false, false, false, false, false, false, false, false, false, false, false, false, false, false, false, false, false, false, false, false, false, false, false, false, false, false, false, false, false, false, false, false, false, false, false, false, false, false]
def i_coder_Number_j0 : List Bool := [true, false, false, true, false, false, false, false, false, false, false, false, false, false, false, false, false, false, false, false, false, false, false, false, false, false, false, false, false, false, false, false, false, false, false, false, false, false, false, false, false, false, false]
def i_coder_Number_j3 : List Bool := [true, false, false, true, true, false, false, false, false, false, false, false, false, false, false, false, false, false, false, false, false, false, false, false, false, false, true, true, false, false, false, false, false, false, false, false, false, false, false, false, false, false, false]
def i_coder_Number_k1 : List Bool := [true, false, false, true, true, false, false, false, false, false, false, false, false, false, false, false, false, false, false, false, false, false, false, false, false, false, true, true, false, false, false, false, false, false, false, false, false, false, false, false, false, false, false]
def i_coder_Number_j2 : List Bool := [false, false, false, false, true, false, false, false, false, false, false, false, false, false, false, false, false, false, false, false, false, false, false, false, false, false, false, false, false, false, false, false, false, false, false, false, false, false, false, false, false, false, false]
abbrev s_coder_Number_R (t2 : AV) (h : Heap) : St := ⟨[.undef, .undef, t2, .undef, .undef, .undef, .undef, .undef, .undef, .undef, .undef, .undef, .undef, .undef, .undef, .undef, .undef, .undef, .undef, .undef, .undef, .undef, .undef, .undef, .undef, .undef, .undef, .undef, .undef, .undef, .undef, .undef, .undef, .undef, .undef, .undef, .undef, .undef, .undef, .undef, .undef, .undef, .undef], h⟩
abbrev s_coder_Number_K0 (t0 t3 : AV) (h : Heap) : St := ⟨[t0, .undef, .undef, t3, .undef, .undef, .undef, .undef, .undef, .undef, .undef, .undef, .undef, .undef, .undef, .undef, .undef, .undef, .undef, .undef, .undef, .undef, .undef, .undef, .undef, .undef, .undef, .undef, .undef, .undef, .undef, .undef, .undef, .undef, .undef, .undef, .undef, .undef, .undef, .undef, .undef, .undef, .undef], h⟩
def i_coder_Number_b0 : IR :=
  (.seq
   (.seq
    (.reg [] [
      ⟨(some 11), .mv (.t 3), none, []⟩,
      ⟨(some 12), .bin .plain .lss (.t 11) (.k (.int .i64 8)), none, []⟩,
      ⟨(some 13), .mv (.t 12), none, []⟩,
      ⟨(some 14), .mv (.t 0), (some (13, true)), []⟩,
      ⟨(some 15), .mv (.t 3), (some (13, true)), []⟩,
      ⟨(some 16), .bin .plain .mul (.k (.int .i64 8)) (.t 15), (some (13, true)), []⟩,
      ⟨(some 17), .bin .plain .shr (.t 14) (.t 16), (some (13, true)), []⟩,
      ⟨(some 18), .bin .plain .gtr (.t 17) (.k (.int .u64 0)), (some (13, true)), []⟩,
      ⟨(some 19), .pick (.t 13) (.t 18) (.k (.bool false)), none, []⟩])
    (.cond (.t 19)
     .skip
     (.exit 0 i_coder_Number_j0)))
   (.block 1 i_coder_Number_j1
    (.reg [] [
      ⟨(some 20), .mv (.t 3), none, []⟩,
      ⟨(some 21), .bin .plain .add (.t 20) (.k (.int .i64 1)), none, []⟩,
      ⟨(some 3), .mv (.t 21), none, []⟩])))

abbrev s_coder_Number_J0 (t0 t3 : AV) (h : Heap) : St := ⟨[t0, .undef, .undef, t3, .undef, .undef, .undef, .undef, .undef, .undef, .undef, .undef, .undef, .undef, .undef, .undef, .undef, .undef, .undef, .undef, .undef, .undef, .undef, .undef, .undef, .undef, .undef, .undef, .undef, .undef, .undef, .undef, .undef, .undef, .undef, .undef, .undef, .undef, .undef, .undef, .undef, .undef, .undef], h⟩
abbrev s_coder_Number_K1 (t0 t3 t4 t26 t27 : AV) (h : Heap) : St := ⟨[t0, .undef, .undef, t3, t4, .undef, .undef, .undef, .undef, .undef, .undef, .undef, .undef, .undef, .undef, .undef, .undef, .undef, .undef, .undef, .undef, .undef, .undef, .undef, .undef, .undef, t26, t27, .undef, .undef, .undef, .undef, .undef, .undef, .undef, .undef, .undef, .undef, .undef, .undef, .undef, .undef, .undef], h⟩
def i_coder_Number_b1 : IR :=
  (.seq
   (.reg [] [
     ⟨(some 28), .bin .plain .lss (.t 27) (.t 26), none, []⟩])
   (.seq
    (.cond (.t 28)
     .skip
     (.exit 2 i_coder_Number_j2))
    (.seq
     (.block 3 i_coder_Number_j3
      (.seq
       (.reg [] [
         ⟨(some 29), .mv (.t 27), none, []⟩,
         ⟨(some 5), .mv (.t 29), none, []⟩])
       (.reg [] [
         ⟨(some 30), .mv (.t 4), none, []⟩,
         ⟨(some 31), .mv (.t 0), none, []⟩,
         ⟨(some 32), .mv (.t 3), none, []⟩,
         ⟨(some 33), .bin .plain .sub (.t 32) (.k (.int .i64 1)), none, []⟩,
         ⟨(some 34), .mv (.t 5), none, []⟩,
         ⟨(some 35), .bin .plain .sub (.t 33) (.t 34), none, []⟩,
         ⟨(some 36), .bin .plain .mul (.k (.int .i64 8)) (.t 35), none, []⟩,
         ⟨(some 37), .bin .plain .shr (.t 31) (.t 36), none, []⟩,
         ⟨(some 38), .conv .u8 (.t 37), none, []⟩,
         ⟨(some 39), .litd 1 1 [(.int .u8 0)] [(0, (.t 38))], none, []⟩,
         ⟨(some 40), .app 0 ty_uint8 1 1 (.t 30) (.t 39), none, []⟩,
         ⟨(some 4), .mv (.t 40), none, []⟩])))
     (.reg [] [
       ⟨(some 41), .bin .plain .add (.t 27) (.k (.int .i64 1)), none, []⟩,
       ⟨(some 27), .mv (.t 41), none, []⟩]))))

abbrev s_coder_Number_J2 (t4 : AV) (h : Heap) : St := ⟨[.undef, .undef, .undef, .undef, t4, .undef, .undef, .undef, .undef, .undef, .undef, .undef, .undef, .undef, .undef, .undef, .undef, .undef, .undef, .undef, .undef, .undef, .undef, .undef, .undef, .undef, .undef, .undef, .undef, .undef, .undef, .undef, .undef, .undef, .undef, .undef, .undef, .undef, .undef, .undef, .undef, .undef, .undef], h⟩
/-- heartwood/coder.Number -/
def i_coder_Number : Ev.Fn := ⟨1, 43, 1,
  (.seq
   (.reg [] [
     ⟨(some 2), .mv (.k (.slice none 0 0)), none, []⟩])
   (.seq
    (.seq
     (.reg [] [
       ⟨(some 6), .mv (.t 0), none, []⟩,
       ⟨(some 7), .bin .plain .leq (.t 6) (.k (.int .u64 247)), none, []⟩])
     (.cond (.t 7)
      (.seq
       (.reg [] [
         ⟨(some 8), .mv (.t 0), none, []⟩,
         ⟨(some 9), .conv .u8 (.t 8), none, []⟩,
         ⟨(some 10), .lit 0 ty_uint8 1 1 [(.int .u8 0)] [(0, (.t 9))], none, []⟩,
         ⟨(some 2), .mv (.t 10), none, []⟩])
       (.ret i_coder_Number_r))
      .skip))
    (.seq
     (.reg [] [
       ⟨(some 3), .mv (.k (.int .i64 1)), none, []⟩])
     (.seq
      (.block 0 i_coder_Number_j0
       (.loop i_coder_Number_k0 i_coder_Number_b0))
      (.seq
       (.reg [] [
         ⟨(some 22), .mv (.t 3), none, []⟩,
         ⟨(some 23), .bin .plain .add (.k (.int .i64 247)) (.t 22), none, []⟩,
         ⟨(some 24), .conv .u8 (.t 23), none, []⟩,
         ⟨(some 25), .lit 0 ty_uint8 1 1 [(.int .u8 0)] [(0, (.t 24))], none, []⟩,
         ⟨(some 4), .mv (.t 25), none, []⟩])
       (.seq
        (.seq
         (.reg [] [
           ⟨(some 26), .mv (.t 3), none, []⟩,
           ⟨(some 27), .mv (.k (.int .i64 0)), none, []⟩])
         (.block 2 i_coder_Number_j2
          (.loop i_coder_Number_k1 i_coder_Number_b1)))
        (.seq
         (.reg [] [
           ⟨(some 42), .mv (.t 4), none, []⟩,
           ⟨(some 2), .mv (.t 42), none, []⟩])
         (.ret i_coder_Number_r)))))))),
  [.tmp 2], [true], false, []⟩

def i_code_Read_r : List Bool := [false, false, true, true, false, false, false, false, false, false, false, false, false, false, false, false, false, false, false, false, false, false, false, false, false, false, false, false, false, false, false]
def i_code_Read_j0 : List Bool := [false, false, true, false, false, false, false, true, false, false, false, false, false, false, false, false, false, false, false, false, false, false, false, false, false, false, false, false, false, false, false]
/-- heartwood/code.Read -/
def i_code_Read : Ev.Fn := ⟨1, 31, 6,
  (.seq
   (.reg [] [
     ⟨(some 2), .new 0 [(.int .i64 0), (.slice none 0 0), (.slice none 0 0), (.slice none 0 0), (.slice none 0 0)], none, []⟩,
     ⟨(some 3), .mv (.k .nilIface), none, []⟩])
   (.seq
    (.reg [] [
      ⟨(some 9), .cn (.t 0), none, []⟩,
      ⟨(some 10), .qcall n_coder_NewReader [(.t 9)] [1], none, []⟩,
      ⟨(some 4), .new 2 [(.pointer none)], none, []⟩,
      ⟨none, .store 1 (.t 4) (.t 10), none, []⟩])
    (.seq
     (.reg [] [
       ⟨(some 5), .new 3 [(.bool false)], none, []⟩,
       ⟨none, .store 1 (.t 5) (.k (.bool false)), none, []⟩])
     (.seq
      (.reg [] [
        ⟨(some 6), .new 4 [.nilFunc], none, []⟩])
      (.seq
       (.reg [] [
         ⟨(some 11), .mkf n_code_Read_1 [(.t 4), (.t 5), (.t 6)], none, []⟩,
         ⟨none, .store 1 (.t 6) (.t 11), none, []⟩])
       (.seq
        (.reg [] [
          ⟨(some 12), .load false 1 (.t 6), none, []⟩,
          ⟨(some 13), .callv (.t 12) [(.k (.int .i64 64))] [], none, []⟩,
          ⟨(some 7), .new 5 [(.int .i64 0), (.slice none 0 0), (.slice none 0 0), (.slice none 0 0), (.slice none 0 0)], none, []⟩,
          ⟨none, .store 5 (.t 7) (.t 13), none, []⟩])
        (.seq
         (.reg [] [
           ⟨(some 14), .load false 1 (.t 4), none, []⟩,
           ⟨(some 15), .call n_coder_Reader_End [(.t 14)] [], none, []⟩,
           ⟨(some 8), .mv (.t 15), none, []⟩])
         (.seq
          (.block 0 i_code_Read_j0
           (.seq
            (.reg [] [
              ⟨(some 17), .load false 1 (.t 5), none, []⟩,
              ⟨(some 18), .mv (.t 17), none, []⟩,
              ⟨(some 19), .mv (.t 8), (some (18, false)), []⟩,
              ⟨(some 20), .mki ty_api_Code (.k (.int .i64 3)), (some (18, false)), []⟩,
              ⟨(some 21), .bin (.iface ty_api_Code false) .eql (.t 19) (.t 20), (some (18, false)), []⟩,
              ⟨(some 22), .pick (.t 18) (.k (.bool true)) (.t 21), none, []⟩,
              ⟨(some 16), .mv (.t 22), none, []⟩])
            (.cond (.t 16)
             (.seq
              (.reg [] [
                ⟨(some 23), .build [(.int .i64 0), (.slice none 0 0), (.slice none 0 0), (.slice none 0 0), (.slice none 0 0)] [], none, []⟩,
                ⟨(some 24), .mki ty_api_Code (.k (.int .i64 3)), none, []⟩,
                ⟨none, .store 5 (.t 2) (.t 23), none, []⟩,
                ⟨(some 3), .mv (.t 24), none, []⟩])
              (.ret i_code_Read_r))
             (.seq
              (.reg [] [
                ⟨(some 26), .mv (.t 8), none, []⟩,
                ⟨(some 27), .bin (.iface ty_api_Code true) .neq (.t 26) (.k .nilIface), none, []⟩,
                ⟨(some 25), .mv (.t 27), none, []⟩])
              (.cond (.t 25)
               (.seq
                (.reg [] [
                  ⟨(some 28), .build [(.int .i64 0), (.slice none 0 0), (.slice none 0 0), (.slice none 0 0), (.slice none 0 0)] [], none, []⟩,
                  ⟨(some 29), .mv (.t 8), none, []⟩,
                  ⟨none, .store 5 (.t 2) (.t 28), none, []⟩,
                  ⟨(some 3), .mv (.t 29), none, []⟩])
                (.ret i_code_Read_r))
               .skip)))))
          (.seq
           (.reg [] [
             ⟨(some 30), .load true 5 (.t 7), none, []⟩,
             ⟨none, .store 5 (.t 2) (.t 30), none, []⟩,
             ⟨(some 3), .mv (.k .nilIface), none, []⟩])
           (.ret i_code_Read_r)))))))))),
  [.cell 2 true 5, .tmp 3], [], false, []⟩

def i_coder_NewReader_r : List Bool := [false, false, true, false, false, false, false]
/-- heartwood/coder.NewReader -/
def i_coder_NewReader : Ev.Fn := ⟨1, 7, 1,
  (.seq
   (.reg [] [
     ⟨(some 2), .mv (.k (.pointer none)), none, []⟩])
   (.seq
    (.reg [] [
      ⟨(some 3), .cn (.t 0), none, []⟩,
      ⟨(some 4), .qcall n_slices_Clone_sl_byte_byte [(.t 3)] [], none, []⟩,
      ⟨(some 5), .build [(.slice none 0 0), (.bool false)] [(0, 1, (.t 4))], none, []⟩,
      ⟨(some 6), .box 0 2 (.t 5), none, []⟩,
      ⟨(some 2), .mv (.t 6), none, []⟩])
    (.ret i_coder_NewReader_r))),
  [.tmp 2], [], false, []⟩

def i_slices_Clone_sl_byte_byte_r : List Bool := [false, false, true, false, false, false, false, false]
/-- slices.Clone[[]byte,byte] -/
def i_slices_Clone_sl_byte_byte : Ev.Fn := ⟨1, 8, 1,
  (.seq
   (.reg [] [
     ⟨(some 2), .cn (.k (.slice none 0 0)), none, []⟩])
   (.seq
    (.seq
     (.reg [] [
       ⟨(some 3), .mv (.t 0), none, []⟩,
       ⟨(some 4), .bin .slice .eql (.t 3) (.k (.slice none 0 0)), none, []⟩])
     (.cond (.t 4)
      (.seq
       (.reg [] [
         ⟨(some 2), .cn (.k (.slice none 0 0)), none, []⟩])
       (.ret i_slices_Clone_sl_byte_byte_r))
      .skip))
    (.seq
     (.reg [] [
       ⟨(some 5), .lit 0 ty_uint8 1 0 [(.int .u8 0)] [], none, []⟩,
       ⟨(some 6), .cn (.t 0), none, []⟩,
       ⟨(some 7), .app 0 ty_uint8 1 1 (.t 5) (.t 6), none, []⟩,
       ⟨(some 2), .cn (.t 7), none, [7]⟩])
     (.ret i_slices_Clone_sl_byte_byte_r)))),
  [.tmp 2], [], true, []⟩

def i_code_Read_1_r : List Bool := [false, false, false, false, false, true, false, false, false, false, false, false, false, false, false, false, false, false, false, false, false, false, false, false, false, false, false, false, false, false, false, false, false, false, false, false, false, false, false, false, false, false, false, false, false, false, false, false, false, false, false, false, false, false, false, false, false, false, false, false, false, false, false, false]
def i_code_Read_1_j0 : List Bool := [true, true, true, true, false, true, true, false, false, false, false, false, false, false, false, false, false, false, false, false, false, false, false, false, false, false, false, false, false, false, false, false, false, false, false, false, false, false, false, false, false, false, false, false, false, false, false, false, false, false, false, false, false, false, false, false, false, false, false, false, false, false, false, false]
/-- heartwood/code.Read$1 -/
def i_code_Read_1 : Ev.Fn := ⟨4, 64, 3,
  (.seq
   (.reg [] [
     ⟨(some 5), .new 0 [(.int .i64 0), (.slice none 0 0), (.slice none 0 0), (.slice none 0 0), (.slice none 0 0)], none, []⟩])
   (.seq
    (.reg [] [
      ⟨(some 8), .load false 1 (.t 1), none, []⟩,
      ⟨(some 9), .call n_coder_Reader_Byte [(.t 8)] [], none, []⟩,
      ⟨(some 10), .conv .i64 (.t 9), none, []⟩,
      ⟨(some 11), .build [(.int .i64 0), (.slice none 0 0), (.slice none 0 0), (.slice none 0 0), (.slice none 0 0)] [(0, 1, (.t 10))], none, []⟩,
      ⟨(some 6), .new 1 [(.int .i64 0), (.slice none 0 0), (.slice none 0 0), (.slice none 0 0), (.slice none 0 0)], none, []⟩,
      ⟨none, .store 5 (.t 6) (.t 11), none, []⟩])
    (.seq
     (.seq
      (.reg [] [
        ⟨(some 12), .fa 0 (.t 6), none, []⟩,
        ⟨(some 13), .load false 1 (.t 12), none, []⟩])
      (.block 0 i_code_Read_1_j0
       (.seq
        (.reg [] [
          ⟨(some 16), .bin .plain .eql (.t 13) (.k (.int .i64 0)), none, []⟩,
          ⟨(some 15), .mv (.t 16), none, []⟩])
        (.cond (.t 15)
         (.seq
          (.reg [] [
            ⟨(some 17), .load true 5 (.t 6), none, []⟩,
            ⟨none, .store 5 (.t 5) (.t 17), none, []⟩])
          (.ret i_code_Read_1_r))
         (.seq
          (.reg [] [
            ⟨(some 19), .bin .plain .eql (.t 13) (.k (.int .i64 3)), none, []⟩,
            ⟨(some 18), .mv (.t 19), none, []⟩])
          (.cond (.t 18)
           (.seq
            (.reg [] [
              ⟨(some 20), .load false 1 (.t 1), none, []⟩,
              ⟨(some 21), .call n_coder_Reader_Bytes [(.t 20), (.k (.int .i64 32))] [], none, []⟩,
              ⟨(some 22), .fa 3 (.t 6), none, []⟩,
              ⟨none, .store 1 (.t 22) (.t 21), none, []⟩])
            (.seq
             (.reg [] [
               ⟨(some 23), .load true 5 (.t 6), none, []⟩,
               ⟨none, .store 5 (.t 5) (.t 23), none, []⟩])
             (.ret i_code_Read_1_r)))
           (.seq
            (.reg [] [
              ⟨(some 25), .bin .plain .eql (.t 13) (.k (.int .i64 1)), none, []⟩,
              ⟨(some 24), .mv (.t 25), none, []⟩])
            (.cond (.t 24)
             (.reg [(1, 2)] [
               ⟨(some 26), .load false 1 (.t 1), none, []⟩,
               ⟨(some 27), .call n_coder_Reader_Bytes [(.t 26), (.k (.int .i64 80))] [], none, []⟩,
               ⟨(some 28), .load false 1 (.t 1), none, []⟩,
               ⟨(some 29), .call n_coder_Reader_Bytes [(.t 28), (.k (.int .i64 1024))] [], none, []⟩,
               ⟨(some 30), .fa 1 (.t 6), none, []⟩,
               ⟨none, .store 1 (.t 30) (.t 27), none, []⟩,
               ⟨(some 31), .fa 2 (.t 6), none, []⟩,
               ⟨none, .store 1 (.t 31) (.t 29), none, []⟩])
             (.seq
              (.reg [] [
                ⟨(some 33), .bin .plain .eql (.t 13) (.k (.int .i64 2)), none, []⟩,
                ⟨(some 32), .mv (.t 33), none, []⟩])
              (.cond (.t 32)
               (.reg [(1, 2)] [
                 ⟨(some 34), .load false 1 (.t 1), none, []⟩,
                 ⟨(some 35), .call n_coder_Reader_Bytes [(.t 34), (.k (.int .i64 80))] [], none, []⟩,
                 ⟨(some 36), .load false 1 (.t 1), none, []⟩,
                 ⟨(some 37), .call n_coder_Reader_Bytes [(.t 36), (.k (.int .i64 32))] [], none, []⟩,
                 ⟨(some 38), .fa 1 (.t 6), none, []⟩,
                 ⟨none, .store 1 (.t 38) (.t 35), none, []⟩,
                 ⟨(some 39), .fa 3 (.t 6), none, []⟩,
                 ⟨none, .store 1 (.t 39) (.t 37), none, []⟩])
               (.seq
                (.reg [] [
                  ⟨none, .store 1 (.t 2) (.k (.bool true)), none, []⟩])
                (.seq
                 (.reg [] [
                   ⟨(some 14), .load true 5 (.t 6), none, []⟩,
                   ⟨none, .store 5 (.t 5) (.t 14), none, []⟩])
                 (.ret i_code_Read_1_r)))))))))))))
     (.seq
      (.seq
       (.reg [] [
         ⟨(some 40), .mv (.t 0), none, []⟩,
         ⟨(some 41), .bin .plain .eql (.t 40) (.k (.int .i64 0)), none, []⟩,
         ⟨(some 42), .mv (.t 41), none, []⟩,
         ⟨(some 43), .load false 1 (.t 1), (some (42, false)), []⟩,
         ⟨(some 44), .call n_coder_Reader_End [(.t 43)] [], (some (42, false)), []⟩,
         ⟨(some 45), .mki ty_api_Code (.k (.int .i64 3)), (some (42, false)), []⟩,
         ⟨(some 46), .bin (.iface ty_api_Code false) .eql (.t 44) (.t 45), (some (42, false)), []⟩,
         ⟨(some 47), .pick (.t 42) (.k (.bool true)) (.t 46), none, []⟩,
         ⟨(some 48), .mv (.t 47), none, []⟩,
         ⟨(some 49), .load false 1 (.t 2), (some (48, false)), []⟩,
         ⟨(some 50), .pick (.t 48) (.k (.bool true)) (.t 49), none, []⟩])
       (.cond (.t 50)
        (.seq
         (.reg [] [
           ⟨none, .store 1 (.t 2) (.k (.bool true)), none, []⟩])
         (.seq
          (.reg [] [
            ⟨(some 51), .load true 5 (.t 6), none, []⟩,
            ⟨none, .store 5 (.t 5) (.t 51), none, []⟩])
          (.ret i_code_Read_1_r)))
        .skip))
      (.seq
       (.reg [] [
         ⟨(some 52), .load false 1 (.t 3), none, []⟩,
         ⟨(some 53), .mv (.t 0), none, []⟩,
         ⟨(some 54), .bin .plain .sub (.t 53) (.k (.int .i64 1)), none, []⟩,
         ⟨(some 55), .callv (.t 52) [(.t 54)] [], none, []⟩,
         ⟨(some 7), .new 2 [(.int .i64 0), (.slice none 0 0), (.slice none 0 0), (.slice none 0 0), (.slice none 0 0)], none, []⟩,
         ⟨none, .store 5 (.t 7) (.t 55), none, []⟩])
       (.seq
        (.reg [(0, 4)] [
          ⟨(some 56), .load true 5 (.t 7), none, []⟩,
          ⟨(some 57), .load false 1 (.t 3), none, []⟩,
          ⟨(some 58), .mv (.t 0), none, []⟩,
          ⟨(some 59), .bin .plain .sub (.t 58) (.k (.int .i64 1)), none, []⟩,
          ⟨(some 60), .callv (.t 57) [(.t 59)] [], none, []⟩,
          ⟨(some 61), .litd 5 2 [(.int .i64 0), (.slice none 0 0), (.slice none 0 0), (.slice none 0 0), (.slice none 0 0)] [(0, (.t 56)), (1, (.t 60))], none, [56]⟩,
          ⟨(some 62), .fa 4 (.t 6), none, []⟩,
          ⟨none, .store 1 (.t 62) (.t 61), none, []⟩])
        (.seq
         (.reg [] [
           ⟨(some 63), .load true 5 (.t 6), none, []⟩,
           ⟨none, .store 5 (.t 5) (.t 63), none, []⟩])
         (.ret i_code_Read_1_r)))))))),
  [.cell 5 true 5], [], false, []⟩

def i_coder_Reader_Byte_r : List Bool := [false, false, true, false, false, false, false, false, false, false, false, false]
/-- (*heartwood/coder.Reader).Byte -/
def i_coder_Reader_Byte : Ev.Fn := ⟨1, 12, 0,
  (.seq
   (.reg [] [
     ⟨(some 2), .mv (.k (.int .u8 0)), none, []⟩])
   (.seq
    (.reg [] [
      ⟨(some 4), .mv (.t 0), none, []⟩,
      ⟨(some 5), .call n_coder_Reader_take [(.t 4), (.k (.int .i64 1))] [], none, []⟩,
      ⟨(some 3), .cn (.t 5), none, []⟩])
    (.seq
     (.seq
      (.reg [] [
        ⟨(some 6), .cn (.t 3), none, []⟩,
        ⟨(some 7), .len false (.t 6), none, []⟩,
        ⟨(some 8), .bin .plain .eql (.t 7) (.k (.int .i64 0)), none, []⟩])
      (.cond (.t 8)
       (.seq
        (.reg [] [
          ⟨(some 2), .mv (.k (.int .u8 0)), none, []⟩])
        (.ret i_coder_Reader_Byte_r))
       .skip))
     (.seq
      (.reg [] [
        ⟨(some 9), .cn (.t 3), none, []⟩,
        ⟨(some 10), .ia 1 (.t 9) (.k (.int .i64 0)), none, []⟩,
        ⟨(some 11), .load false 1 (.t 10), none, []⟩,
        ⟨(some 2), .mv (.t 11), none, []⟩])
      (.ret i_coder_Reader_Byte_r))))),
  [.tmp 2], [], false, []⟩

def i_coder_Reader_take_r : List Bool := [false, false, false, false, true, false, false, false, false, false, false, false, false, false, false, false, false, false, false, false, false, false, false, false, false, false, false, false, false, false, false, false, false, false, false, false, false, false, false]
/-- (*heartwood/coder.Reader).take -/
def i_coder_Reader_take : Ev.Fn := ⟨2, 39, 0,
  (.seq
   (.reg [] [
     ⟨(some 4), .cn (.k (.slice none 0 0)), none, []⟩])
   (.seq
    (.seq
     (.reg [] [
       ⟨(some 6), .mv (.t 0), none, []⟩,
       ⟨(some 7), .nilc (.t 6), none, []⟩,
       ⟨(some 8), .fa 1 (.t 7), none, []⟩,
       ⟨(some 9), .load false 1 (.t 8), none, []⟩,
       ⟨(some 10), .mv (.t 9), none, []⟩,
       ⟨(some 11), .mv (.t 1), (some (10, false)), []⟩,
       ⟨(some 12), .mv (.t 0), (some (10, false)), []⟩,
       ⟨(some 13), .nilc (.t 12), (some (10, false)), []⟩,
       ⟨(some 14), .fa 0 (.t 13), (some (10, false)), []⟩,
       ⟨(some 15), .load false 1 (.t 14), (some (10, false)), []⟩,
       ⟨(some 16), .len false (.t 15), (some (10, false)), []⟩,
       ⟨(some 17), .bin .plain .gtr (.t 11) (.t 16), (some (10, false)), []⟩,
       ⟨(some 18), .pick (.t 10) (.k (.bool true)) (.t 17), none, []⟩])
     (.cond (.t 18)
      (.seq
       (.reg [] [
         ⟨(some 19), .mv (.t 0), none, []⟩,
         ⟨(some 20), .nilc (.t 19), none, []⟩,
         ⟨(some 21), .fa 1 (.t 20), none, []⟩,
         ⟨none, .store 1 (.t 21) (.k (.bool true)), none, []⟩])
       (.seq
        (.reg [] [
          ⟨(some 4), .cn (.k (.slice none 0 0)), none, []⟩])
        (.ret i_coder_Reader_take_r)))
      .skip))
    (.seq
     (.reg [] [
       ⟨(some 22), .mv (.t 0), none, []⟩,
       ⟨(some 23), .nilc (.t 22), none, []⟩,
       ⟨(some 24), .fa 0 (.t 23), none, []⟩,
       ⟨(some 25), .load false 1 (.t 24), none, []⟩,
       ⟨(some 26), .mv (.t 1), none, []⟩,
       ⟨(some 27), .mv (.t 1), none, []⟩,
       ⟨(some 28), .slice 1 (.t 25) none (some (.t 26)) (some (.t 27)), none, [25]⟩,
       ⟨(some 5), .cn (.t 28), none, []⟩])
     (.seq
      (.reg [] [
        ⟨(some 29), .mv (.t 0), none, []⟩,
        ⟨(some 30), .mv (.t 0), none, []⟩,
        ⟨(some 31), .nilc (.t 30), none, []⟩,
        ⟨(some 32), .fa 0 (.t 31), none, []⟩,
        ⟨(some 33), .load false 1 (.t 32), none, []⟩,
        ⟨(some 34), .mv (.t 1), none, []⟩,
        ⟨(some 35), .slice 1 (.t 33) (some (.t 34)) none none, none, [33]⟩,
        ⟨(some 36), .nilc (.t 29), none, []⟩,
        ⟨(some 37), .fa 0 (.t 36), none, []⟩,
        ⟨none, .store 1 (.t 37) (.t 35), none, []⟩])
      (.seq
       (.reg [] [
         ⟨(some 38), .cn (.t 5), none, []⟩,
         ⟨(some 4), .cn (.t 38), none, []⟩])
       (.ret i_coder_Reader_take_r)))))),
  [.tmp 4], [], false, []⟩

def i_coder_Reader_Bytes_r : List Bool := [false, false, false, false, true, false, false, false, false, false, false, false, false, false, false, false, false, false, false, false, false, false, false, false, false, false, false, false, false, false, false, false, false, false, false, false, false, false, false]
/-- (*heartwood/coder.Reader).Bytes -/
def i_coder_Reader_Bytes : Ev.Fn := ⟨2, 39, 0,
  (.seq
   (.reg [] [
     ⟨(some 4), .cn (.k (.slice none 0 0)), none, []⟩])
   (.seq
    (.reg [] [
      ⟨(some 6), .mv (.t 0), none, []⟩,
      ⟨(some 7), .call n_coder_Reader_Number [(.t 6)] [], none, []⟩,
      ⟨(some 5), .mv (.t 7), none, []⟩])
    (.seq
     (.seq
      (.reg [] [
        ⟨(some 8), .mv (.t 0), none, []⟩,
        ⟨(some 9), .nilc (.t 8), none, []⟩,
        ⟨(some 10), .fa 1 (.t 9), none, []⟩,
        ⟨(some 11), .load false 1 (.t 10), none, []⟩,
        ⟨(some 12), .mv (.t 11), none, []⟩,
        ⟨(some 13), .mv (.t 1), (some (12, false)), []⟩,
        ⟨(some 14), .bin .plain .lss (.t 13) (.k (.int .i64 0)), (some (12, false)), []⟩,
        ⟨(some 15), .pick (.t 12) (.k (.bool true)) (.t 14), none, []⟩,
        ⟨(some 16), .mv (.t 15), none, []⟩,
        ⟨(some 17), .mv (.t 5), (some (16, false)), []⟩,
        ⟨(some 18), .mv (.t 1), (some (16, false)), []⟩,
        ⟨(some 19), .conv .u64 (.t 18), (some (16, false)), []⟩,
        ⟨(some 20), .bin .plain .gtr (.t 17) (.t 19), (some (16, false)), []⟩,
        ⟨(some 21), .pick (.t 16) (.k (.bool true)) (.t 20), none, []⟩,
        ⟨(some 22), .mv (.t 21), none, []⟩,
        ⟨(some 23), .mv (.t 5), (some (22, false)), []⟩,
        ⟨(some 24), .mv (.t 0), (some (22, false)), []⟩,
        ⟨(some 25), .nilc (.t 24), (some (22, false)), []⟩,
        ⟨(some 26), .fa 0 (.t 25), (some (22, false)), []⟩,
        ⟨(some 27), .load false 1 (.t 26), (some (22, false)), []⟩,
        ⟨(some 28), .len false (.t 27), (some (22, false)), []⟩,
        ⟨(some 29), .conv .u64 (.t 28), (some (22, false)), []⟩,
        ⟨(some 30), .bin .plain .gtr (.t 23) (.t 29), (some (22, false)), []⟩,
        ⟨(some 31), .pick (.t 22) (.k (.bool true)) (.t 30), none, []⟩])
      (.cond (.t 31)
       (.seq
        (.reg [] [
          ⟨(some 32), .mv (.t 0), none, []⟩,
          ⟨(some 33), .nilc (.t 32), none, []⟩,
          ⟨(some 34), .fa 1 (.t 33), none, []⟩,
          ⟨none, .store 1 (.t 34) (.k (.bool true)), none, []⟩])
        (.seq
         (.reg [] [
           ⟨(some 4), .cn (.k (.slice none 0 0)), none, []⟩])
         (.ret i_coder_Reader_Bytes_r)))
       .skip))
     (.seq
      (.reg [] [
        ⟨(some 35), .mv (.t 0), none, []⟩,
        ⟨(some 36), .mv (.t 5), none, []⟩,
        ⟨(some 37), .conv .i64 (.t 36), none, []⟩,
        ⟨(some 38), .call n_coder_Reader_take [(.t 35), (.t 37)] [], none, []⟩,
        ⟨(some 4), .cn (.t 38), none, []⟩])
      (.ret i_coder_Reader_Bytes_r))))),
  [.tmp 4], [], false, []⟩

def i_coder_Reader_Number_r : List Bool := [false, false, true, false, false, false, false, false, false, false, false, false, false, false, false, false, false, false, false, false, false, false, false, false, false, false, false, false, false, false, false, false, false, false, false, false, false, false, false, false, false, false, false, false, false, false, false, false]
def i_coder_Reader_Number_j1 : List Bool := [true, false, false, false, true, true, false, false, false, false, false, false, false, false, false, false, false, false, false, true, true, true, false, false, false, false, false, false, false, false, false, false, false, false, false, false, false, false, false, false, false, false, false, false, false, false, false, false]
def i_coder_Reader_Number_k0 : List Bool := [true, false, false, false, true, true, false, false, false, false, false, false, false, false, false, false, false, false, false, true, true, true, false, false, false, false, false, false, false, false, false, false, false, false, false, false, false, false, false, false, false, false, false, false, false, false, false, false]
def i_coder_Reader_Number_j0 : List Bool := [true, false, false, false, true, true, false, false, false, false, false, false, false, false, false, false, false, false, false, false, false, false, false, false, false, false, false, false, false, false, false, false, false, false, false, false, false, false, false, false, false, false, false, false, false, false, false, false]
abbrev s_coder_Reader_Number_R (t2 : AV) (h : Heap) : St := ⟨[.undef, .undef, t2, .undef, .undef, .undef, .undef, .undef, .undef, .undef, .undef, .undef, .undef, .undef, .undef, .undef, .undef, .undef, .undef, .undef, .undef, .undef, .undef, .undef, .undef, .undef, .undef, .undef, .undef, .undef, .undef, .undef, .undef, .undef, .undef, .undef, .undef, .undef, .undef, .undef, .undef, .undef, .undef, .undef, .undef, .undef, .undef, .undef], h⟩
abbrev s_coder_Reader_Number_K0 (t0 t4 t5 t19 t20 t21 : AV) (h : Heap) : St := ⟨[t0, .undef, .undef, .undef, t4, t5, .undef, .undef, .undef, .undef, .undef, .undef, .undef, .undef, .undef, .undef, .undef, .undef, .undef, t19, t20, t21, .undef, .undef, .undef, .undef, .undef, .undef, .undef, .undef, .undef, .undef, .undef, .undef, .undef, .undef, .undef, .undef, .undef, .undef, .undef, .undef, .undef, .undef, .undef, .undef, .undef, .undef], h⟩
def i_coder_Reader_Number_b0 : IR :=
  (.seq
   (.reg [] [
     ⟨(some 22), .bin .plain .lss (.t 21) (.t 20), none, []⟩])
   (.seq
    (.cond (.t 22)
     .skip
     (.exit 0 i_coder_Reader_Number_j0))
    (.seq
     (.block 1 i_coder_Reader_Number_j1
      (.seq
       (.reg [] [
         ⟨(some 23), .ia 1 (.t 19) (.t 21), none, []⟩,
         ⟨(some 24), .load false 1 (.t 23), none, []⟩,
         ⟨(some 7), .mv (.t 24), none, []⟩])
       (.reg [] [
         ⟨(some 25), .mv (.t 5), none, []⟩,
         ⟨(some 26), .bin .plain .shl (.t 25) (.k (.int .u64 8)), none, []⟩,
         ⟨(some 27), .mv (.t 7), none, []⟩,
         ⟨(some 28), .conv .u64 (.t 27), none, []⟩,
         ⟨(some 29), .bin .plain .or (.t 26) (.t 28), none, []⟩,
         ⟨(some 5), .mv (.t 29), none, []⟩])))
     (.reg [] [
       ⟨(some 30), .bin .plain .add (.t 21) (.k (.int .i64 1)), none, []⟩,
       ⟨(some 21), .mv (.t 30), none, []⟩]))))

abbrev s_coder_Reader_Number_J0 (t0 t4 t5 : AV) (h : Heap) : St := ⟨[t0, .undef, .undef, .undef, t4, t5, .undef, .undef, .undef, .undef, .undef, .undef, .undef, .undef, .undef, .undef, .undef, .undef, .undef, .undef, .undef, .undef, .undef, .undef, .undef, .undef, .undef, .undef, .undef, .undef, .undef, .undef, .undef, .undef, .undef, .undef, .undef, .undef, .undef, .undef, .undef, .undef, .undef, .undef, .undef, .undef, .undef, .undef], h⟩
/-- (*heartwood/coder.Reader).Number -/
def i_coder_Reader_Number : Ev.Fn := ⟨1, 48, 0,
  (.seq
   (.reg [] [
     ⟨(some 2), .mv (.k (.int .u64 0)), none, []⟩])
   (.seq
    (.reg [] [
      ⟨(some 8), .mv (.t 0), none, []⟩,
      ⟨(some 9), .call n_coder_Reader_Byte [(.t 8)] [], none, []⟩,
      ⟨(some 3), .mv (.t 9), none, []⟩])
    (.seq
     (.seq
      (.reg [] [
        ⟨(some 10), .mv (.t 3), none, []⟩,
        ⟨(some 11), .bin .plain .leq (.t 10) (.k (.int .u8 247)), none, []⟩])
      (.cond (.t 11)
       (.seq
        (.reg [] [
          ⟨(some 12), .mv (.t 3), none, []⟩,
          ⟨(some 13), .conv .u64 (.t 12), none, []⟩,
          ⟨(some 2), .mv (.t 13), none, []⟩])
        (.ret i_coder_Reader_Number_r))
       .skip))
     (.seq
      (.reg [] [
        ⟨(some 14), .mv (.t 0), none, []⟩,
        ⟨(some 15), .mv (.t 3), none, []⟩,
        ⟨(some 16), .conv .i64 (.t 15), none, []⟩,
        ⟨(some 17), .bin .plain .sub (.t 16) (.k (.int .i64 247)), none, []⟩,
        ⟨(some 18), .call n_coder_Reader_take [(.t 14), (.t 17)] [], none, []⟩,
        ⟨(some 4), .cn (.t 18), none, []⟩])
      (.seq
       (.reg [] [
         ⟨(some 5), .mv (.k (.int .u64 0)), none, []⟩])
       (.seq
        (.seq
         (.reg [] [
           ⟨(some 19), .cn (.t 4), none, []⟩,
           ⟨(some 20), .len false (.t 19), none, []⟩,
           ⟨(some 21), .mv (.k (.int .i64 0)), none, []⟩])
         (.block 0 i_coder_Reader_Number_j0
          (.loop i_coder_Reader_Number_k0 i_coder_Reader_Number_b0)))
        (.seq
         (.seq
          (.reg [] [
            ⟨(some 31), .cn (.t 4), none, []⟩,
            ⟨(some 32), .len false (.t 31), none, []⟩,
            ⟨(some 33), .bin .plain .eql (.t 32) (.k (.int .i64 0)), none, []⟩,
            ⟨(some 34), .mv (.t 33), none, []⟩,
            ⟨(some 35), .cn (.t 4), (some (34, false)), []⟩,
            ⟨(some 36), .ia 1 (.t 35) (.k (.int .i64 0)), (some (34, false)), []⟩,
            ⟨(some 37), .load false 1 (.t 36), (some (34, false)), []⟩,
            ⟨(some 38), .bin .plain .eql (.t 37) (.k (.int .u8 0)), (some (34, false)), []⟩,
            ⟨(some 39), .pick (.t 34) (.k (.bool true)) (.t 38), none, []⟩,
            ⟨(some 40), .mv (.t 39), none, []⟩,
            ⟨(some 41), .mv (.t 5), (some (40, false)), []⟩,
            ⟨(some 42), .bin .plain .leq (.t 41) (.k (.int .u64 247)), (some (40, false)), []⟩,
            ⟨(some 43), .pick (.t 40) (.k (.bool true)) (.t 42), none, []⟩])
          (.cond (.t 43)
           (.seq
            (.reg [] [
              ⟨(some 44), .mv (.t 0), none, []⟩,
              ⟨(some 45), .nilc (.t 44), none, []⟩,
              ⟨(some 46), .fa 1 (.t 45), none, []⟩,
              ⟨none, .store 1 (.t 46) (.k (.bool true)), none, []⟩])
            (.seq
             (.reg [] [
               ⟨(some 2), .mv (.k (.int .u64 0)), none, []⟩])
             (.ret i_coder_Reader_Number_r)))
           .skip))
         (.seq
          (.reg [] [
            ⟨(some 47), .mv (.t 5), none, []⟩,
            ⟨(some 2), .mv (.t 47), none, []⟩])
          (.ret i_coder_Reader_Number_r))))))))),
  [.tmp 2], [], false, []⟩

def i_coder_Reader_End_r : List Bool := [false, false, true, false, false, false, false, false, false, false, false, false, false, false, false, false, false]
def i_coder_Reader_End_j0 : List Bool := [false, false, false, false, false, false, false, false, false, false, false, false, false, false, false, false, false]
/-- (*heartwood/coder.Reader).End -/
def i_coder_Reader_End : Ev.Fn := ⟨1, 17, 0,
  (.seq
   (.reg [] [
     ⟨(some 2), .mv (.k .nilIface), none, []⟩])
   (.seq
    (.block 0 i_coder_Reader_End_j0
     (.seq
      (.reg [] [
        ⟨(some 4), .mv (.t 0), none, []⟩,
        ⟨(some 5), .nilc (.t 4), none, []⟩,
        ⟨(some 6), .fa 1 (.t 5), none, []⟩,
        ⟨(some 7), .load false 1 (.t 6), none, []⟩,
        ⟨(some 3), .mv (.t 7), none, []⟩])
      (.cond (.t 3)
       (.seq
        (.reg [] [
          ⟨(some 8), .mki ty_api_Code (.k (.int .i64 3)), none, []⟩,
          ⟨(some 2), .mv (.t 8), none, []⟩])
        (.ret i_coder_Reader_End_r))
       (.seq
        (.reg [] [
          ⟨(some 10), .mv (.t 0), none, []⟩,
          ⟨(some 11), .nilc (.t 10), none, []⟩,
          ⟨(some 12), .fa 0 (.t 11), none, []⟩,
          ⟨(some 13), .load false 1 (.t 12), none, []⟩,
          ⟨(some 14), .len false (.t 13), none, []⟩,
          ⟨(some 15), .bin .plain .gtr (.t 14) (.k (.int .i64 0)), none, []⟩,
          ⟨(some 9), .mv (.t 15), none, []⟩])
        (.cond (.t 9)
         (.seq
          (.reg [] [
            ⟨(some 16), .mki ty_api_Code (.k (.int .i64 4)), none, []⟩,
            ⟨(some 2), .mv (.t 16), none, []⟩])
          (.ret i_coder_Reader_End_r))
         .skip)))))
    (.seq
     (.reg [] [
       ⟨(some 2), .mv (.k .nilIface), none, []⟩])
     (.ret i_coder_Reader_End_r)))),
  [.tmp 2], [], false, []⟩

def i_law10_small_r : List Bool := [false, false, true, false, false, false]
/-- heartwood/heartwoodlaw10.small -/
def i_law10_small : Ev.Fn := ⟨1, 6, 1,
  (.seq
   (.reg [] [
     ⟨(some 1), .box 0 5 (.t 0), none, []⟩,
     ⟨(some 2), .mv (.k (.bool false)), none, []⟩])
   (.seq
    (.reg [] [
      ⟨(some 3), .load true 5 (.t 1), none, []⟩,
      ⟨(some 4), .qcall n_ref04_Light [(.t 3), (.k (.int .i64 300)), (.k (.int .i64 200))] [], none, []⟩,
      ⟨(some 5), .bin .plain .geq (.t 4) (.k (.int .i64 0)), none, []⟩,
      ⟨(some 2), .mv (.t 5), none, []⟩])
    (.ret i_law10_small_r))),
  [.tmp 2], [], false, []⟩

def i_ref04_Light_r : List Bool := [false, false, false, false, false, false, true, false, false, false, false, false, false, false, false, false, false, false, false, false, false, false, false, false, false, false, false, false, false, false, false, false, false, false, false, false, false, false, false, false, false, false, false, false, false, false, false, false, false, false, false, false, false, false, false, false, false, false, false, false]
def i_ref04_Light_j1 : List Bool := [false, true, true, true, false, false, false, true, false, false, false, false, false, false, false, false, false, false, false, false, false, false, false, false, false, false, false, false, false, false, false, false, false, false, false, false, false, false, false, false, false, false, false, false, false, false, false, false, false, false, false, false, false, false, false, false, false, false, false, false]
def i_ref04_Light_k0 : List Bool := [false, true, true, true, false, false, false, true, false, false, false, false, false, false, false, false, false, false, false, false, false, false, false, false, false, false, false, false, false, false, false, false, false, false, false, false, false, false, false, false, false, false, false, false, false, false, false, false, false, false, false, false, false, false, false, false, false, false, false, false]
def i_ref04_Light_j0 : List Bool := [false, true, false, false, false, false, false, false, false, false, false, false, false, false, false, false, false, false, false, false, false, false, false, false, false, false, false, false, false, false, false, false, false, false, false, false, false, false, false, false, false, false, false, false, false, false, false, false, false, false, false, false, false, false, false, false, false, false, false, false]
abbrev s_ref04_Light_R (t6 : AV) (h : Heap) : St := ⟨[.undef, .undef, .undef, .undef, .undef, .undef, t6, .undef, .undef, .undef, .undef, .undef, .undef, .undef, .undef, .undef, .undef, .undef, .undef, .undef, .undef, .undef, .undef, .undef, .undef, .undef, .undef, .undef, .undef, .undef, .undef, .undef, .undef, .undef, .undef, .undef, .undef, .undef, .undef, .undef, .undef, .undef, .undef, .undef, .undef, .undef, .undef, .undef, .undef, .undef, .undef, .undef, .undef, .undef, .undef, .undef, .undef, .undef, .undef, .undef], h⟩
abbrev s_ref04_Light_K0 (t1 t2 t3 t7 : AV) (h : Heap) : St := ⟨[.undef, t1, t2, t3, .undef, .undef, .undef, t7, .undef, .undef, .undef, .undef, .undef, .undef, .undef, .undef, .undef, .undef, .undef, .undef, .undef, .undef, .undef, .undef, .undef, .undef, .undef, .undef, .undef, .undef, .undef, .undef, .undef, .undef, .undef, .undef, .undef, .undef, .undef, .undef, .undef, .undef, .undef, .undef, .undef, .undef, .undef, .undef, .undef, .undef, .undef, .undef, .undef, .undef, .undef, .undef, .undef, .undef, .undef, .undef], h⟩
def i_ref04_Light_b0 : IR :=
  (.seq
   (.seq
    (.reg [] [
      ⟨(some 41), .mv (.t 7), none, []⟩,
      ⟨(some 42), .fa 4 (.t 3), none, []⟩,
      ⟨(some 43), .load false 1 (.t 42), none, []⟩,
      ⟨(some 44), .len false (.t 43), none, []⟩,
      ⟨(some 45), .bin .plain .lss (.t 41) (.t 44), none, []⟩])
    (.cond (.t 45)
     .skip
     (.exit 0 i_ref04_Light_j0)))
   (.seq
    (.block 1 i_ref04_Light_j1
     (.seq
      (.reg [] [
        ⟨(some 48), .fa 4 (.t 3), none, []⟩,
        ⟨(some 49), .load false 1 (.t 48), none, []⟩,
        ⟨(some 50), .mv (.t 7), none, []⟩,
        ⟨(some 51), .ia 5 (.t 49) (.t 50), none, []⟩,
        ⟨(some 52), .load true 5 (.t 51), none, []⟩,
        ⟨(some 53), .mv (.t 1), none, []⟩,
        ⟨(some 54), .mv (.t 2), none, []⟩,
        ⟨(some 55), .bin .plain .sub (.t 54) (.k (.int .i64 1)), none, []⟩,
        ⟨(some 56), .qcall n_ref04_Light [(.t 52), (.t 53), (.t 55)] [], none, []⟩,
        ⟨(some 1), .mv (.t 56), none, []⟩])
      (.seq
       (.reg [] [
         ⟨(some 57), .mv (.t 1), none, []⟩,
         ⟨(some 58), .bin .plain .lss (.t 57) (.k (.int .i64 0)), none, []⟩])
       (.cond (.t 58)
        (.seq
         (.reg [] [
           ⟨(some 6), .mv (.k (.int .i64 (-1))), none, []⟩])
         (.ret i_ref04_Light_r))
        .skip))))
    (.reg [] [
      ⟨(some 46), .mv (.t 7), none, []⟩,
      ⟨(some 47), .bin .plain .add (.t 46) (.k (.int .i64 1)), none, []⟩,
      ⟨(some 7), .mv (.t 47), none, []⟩])))

abbrev s_ref04_Light_J0 (t1 : AV) (h : Heap) : St := ⟨[.undef, t1, .undef, .undef, .undef, .undef, .undef, .undef, .undef, .undef, .undef, .undef, .undef, .undef, .undef, .undef, .undef, .undef, .undef, .undef, .undef, .undef, .undef, .undef, .undef, .undef, .undef, .undef, .undef, .undef, .undef, .undef, .undef, .undef, .undef, .undef, .undef, .undef, .undef, .undef, .undef, .undef, .undef, .undef, .undef, .undef, .undef, .undef, .undef, .undef, .undef, .undef, .undef, .undef, .undef, .undef, .undef, .undef, .undef, .undef], h⟩
/-- heartwood/heartwoodref04.Light -/
def i_ref04_Light : Ev.Fn := ⟨3, 60, 1,
  (.seq
   (.reg [] [
     ⟨(some 3), .box 0 5 (.t 0), none, []⟩,
     ⟨(some 6), .mv (.k (.int .i64 0)), none, []⟩])
   (.seq
    (.reg [] [
      ⟨(some 8), .mv (.t 1), none, []⟩,
      ⟨(some 9), .bin .plain .sub (.t 8) (.k (.int .i64 1)), none, []⟩,
      ⟨(some 1), .mv (.t 9), none, []⟩])
    (.seq
     (.seq
      (.reg [] [
        ⟨(some 10), .mv (.t 2), none, []⟩,
        ⟨(some 11), .bin .plain .eql (.t 10) (.k (.int .i64 0)), none, []⟩,
        ⟨(some 12), .mv (.t 11), none, []⟩,
        ⟨(some 13), .mv (.t 1), (some (12, false)), []⟩,
        ⟨(some 14), .bin .plain .lss (.t 13) (.k (.int .i64 0)), (some (12, false)), []⟩,
        ⟨(some 15), .pick (.t 12) (.k (.bool true)) (.t 14), none, []⟩,
        ⟨(some 16), .mv (.t 15), none, []⟩,
        ⟨(some 17), .fa 4 (.t 3), (some (16, false)), []⟩,
        ⟨(some 18), .load false 1 (.t 17), (some (16, false)), []⟩,
        ⟨(some 19), .len false (.t 18), (some (16, false)), []⟩,
        ⟨(some 20), .mv (.t 1), (some (16, false)), []⟩,
        ⟨(some 21), .bin .plain .gtr (.t 19) (.t 20), (some (16, false)), []⟩,
        ⟨(some 22), .pick (.t 16) (.k (.bool true)) (.t 21), none, []⟩,
        ⟨(some 23), .mv (.t 22), none, []⟩,
        ⟨(some 24), .fa 1 (.t 3), (some (23, false)), []⟩,
        ⟨(some 25), .load false 1 (.t 24), (some (23, false)), []⟩,
        ⟨(some 26), .len false (.t 25), (some (23, false)), []⟩,
        ⟨(some 27), .bin .plain .gtr (.t 26) (.k (.int .i64 3000)), (some (23, false)), []⟩,
        ⟨(some 28), .pick (.t 23) (.k (.bool true)) (.t 27), none, []⟩,
        ⟨(some 29), .mv (.t 28), none, []⟩,
        ⟨(some 30), .fa 2 (.t 3), (some (29, false)), []⟩,
        ⟨(some 31), .load false 1 (.t 30), (some (29, false)), []⟩,
        ⟨(some 32), .len false (.t 31), (some (29, false)), []⟩,
        ⟨(some 33), .bin .plain .gtr (.t 32) (.k (.int .i64 3000)), (some (29, false)), []⟩,
        ⟨(some 34), .pick (.t 29) (.k (.bool true)) (.t 33), none, []⟩,
        ⟨(some 35), .mv (.t 34), none, []⟩,
        ⟨(some 36), .fa 3 (.t 3), (some (35, false)), []⟩,
        ⟨(some 37), .load false 1 (.t 36), (some (35, false)), []⟩,
        ⟨(some 38), .len false (.t 37), (some (35, false)), []⟩,
        ⟨(some 39), .bin .plain .gtr (.t 38) (.k (.int .i64 3000)), (some (35, false)), []⟩,
        ⟨(some 40), .pick (.t 35) (.k (.bool true)) (.t 39), none, []⟩])
      (.cond (.t 40)
       (.seq
        (.reg [] [
          ⟨(some 6), .mv (.k (.int .i64 (-1))), none, []⟩])
        (.ret i_ref04_Light_r))
       .skip))
     (.seq
      (.seq
       (.reg [] [
         ⟨(some 7), .mv (.k (.int .i64 0)), none, []⟩])
       (.block 0 i_ref04_Light_j0
        (.loop i_ref04_Light_k0 i_ref04_Light_b0)))
      (.seq
       (.reg [] [
         ⟨(some 59), .mv (.t 1), none, []⟩,
         ⟨(some 6), .mv (.t 59), none, []⟩])
       (.ret i_ref04_Light_r)))))),
  [.tmp 6], [], false, []⟩

def i_ref10_Write_r : List Bool := [false, false, true, true, false, false, false, false, false, false, false, false, false, false, false, false]
/-- heartwood/heartwoodref10.Write -/
def i_ref10_Write : Ev.Fn := ⟨1, 16, 1,
  (.seq
   (.reg [] [
     ⟨(some 1), .box 0 5 (.t 0), none, []⟩,
     ⟨(some 2), .cn (.k (.slice none 0 0)), none, []⟩,
     ⟨(some 3), .mv (.k (.int .i64 0)), none, []⟩])
   (.seq
    (.reg [] [
      ⟨(some 6), .load true 5 (.t 1), none, []⟩,
      ⟨(some 7), .qcall n_ref04_Check [(.t 6)] [], none, []⟩,
      ⟨(some 4), .mv (.t 7), none, []⟩])
    (.seq
     (.seq
      (.reg [] [
        ⟨(some 8), .mv (.t 4), none, []⟩,
        ⟨(some 9), .bin .plain .neq (.t 8) (.k (.int .i64 0)), none, []⟩])
      (.cond (.t 9)
       (.seq
        (.reg [] [
          ⟨(some 10), .mv (.t 4), none, []⟩,
          ⟨(some 2), .cn (.k (.slice none 0 0)), none, []⟩,
          ⟨(some 3), .mv (.t 10), none, []⟩])
        (.ret i_ref10_Write_r))
       .skip))
     (.seq
      (.reg [] [
        ⟨(some 11), .load true 5 (.t 1), none, []⟩,
        ⟨(some 12), .qcall n_ref10_long [(.t 11)] [], none, []⟩,
        ⟨(some 5), .mv (.t 12), none, []⟩])
      (.seq
       (.seq
        (.reg [] [
          ⟨(some 13), .mv (.t 5), none, []⟩])
        (.cond (.t 13)
         (.seq
          (.reg [] [
            ⟨(some 2), .cn (.k (.slice none 0 0)), none, []⟩,
            ⟨(some 3), .mv (.k (.int .i64 2)), none, []⟩])
          (.ret i_ref10_Write_r))
         .skip))
       (.seq
        (.reg [] [
          ⟨(some 14), .load true 5 (.t 1), none, []⟩,
          ⟨(some 15), .qcall n_ref10_bytes [(.t 14)] [], none, []⟩,
          ⟨(some 2), .cn (.t 15), none, []⟩,
          ⟨(some 3), .mv (.k (.int .i64 0)), none, []⟩])
        (.ret i_ref10_Write_r))))))),
  [.tmp 2, .tmp 3], [], false, []⟩

def i_ref04_Check_r : List Bool := [false, false, true, false, false, false, false, false, false, false, false, false]
/-- heartwood/heartwoodref04.Check -/
def i_ref04_Check : Ev.Fn := ⟨1, 12, 1,
  (.seq
   (.reg [] [
     ⟨(some 1), .box 0 5 (.t 0), none, []⟩,
     ⟨(some 2), .mv (.k (.int .i64 0)), none, []⟩])
   (.seq
    (.reg [] [
      ⟨(some 5), .load true 5 (.t 1), none, []⟩,
      ⟨(some 6), .qcall n_ref04_Deep [(.t 5), (.k (.int .i64 64))] [], none, []⟩,
      ⟨(some 3), .mv (.t 6), none, []⟩])
    (.seq
     (.seq
      (.reg [] [
        ⟨(some 7), .mv (.t 3), none, []⟩])
      (.cond (.t 7)
       (.seq
        (.reg [] [
          ⟨(some 2), .mv (.k (.int .i64 5)), none, []⟩])
        (.ret i_ref04_Check_r))
       .skip))
     (.seq
      (.reg [] [
        ⟨(some 8), .load true 5 (.t 1), none, []⟩,
        ⟨(some 9), .qcall n_ref04_Formed [(.t 8)] [], none, []⟩,
        ⟨(some 4), .mv (.t 9), none, []⟩])
      (.seq
       (.seq
        (.reg [] [
          ⟨(some 10), .mv (.t 4), none, []⟩,
          ⟨(some 11), .un .not (.t 10), none, []⟩])
        (.cond (.t 11)
         (.seq
          (.reg [] [
            ⟨(some 2), .mv (.k (.int .i64 3)), none, []⟩])
          (.ret i_ref04_Check_r))
         .skip))
       (.seq
        (.reg [] [
          ⟨(some 2), .mv (.k (.int .i64 0)), none, []⟩])
        (.ret i_ref04_Check_r))))))),
  [.tmp 2], [], false, []⟩

def i_ref04_Deep_r : List Bool := [false, false, false, false, true, false, false, false, false, false, false, false, false, false, false, false, false, false, false, false, false, false, false, false, false, false, false, false, false, false, false, false, false, false, false, false, false, false, false, false, false, false, false]
def i_ref04_Deep_j1 : List Bool := [false, true, true, false, false, false, true, false, false, false, false, false, false, false, false, false, false, false, false, false, false, false, false, false, false, false, false, false, false, false, false, false, false, false, false, false, false, false, false, false, false, false, false]
def i_ref04_Deep_k0 : List Bool := [false, true, true, false, false, false, true, false, false, false, false, false, false, false, false, false, false, false, false, false, false, false, false, false, false, false, false, false, false, false, false, false, false, false, false, false, false, false, false, false, false, false, false]
def i_ref04_Deep_j0 : List Bool := [false, false, false, false, false, false, false, false, false, false, false, false, false, false, false, false, false, false, false, false, false, false, false, false, false, false, false, false, false, false, false, false, false, false, false, false, false, false, false, false, false, false, false]
abbrev s_ref04_Deep_R (t4 : AV) (h : Heap) : St := ⟨[.undef, .undef, .undef, .undef, t4, .undef, .undef, .undef, .undef, .undef, .undef, .undef, .undef, .undef, .undef, .undef, .undef, .undef, .undef, .undef, .undef, .undef, .undef, .undef, .undef, .undef, .undef, .undef, .undef, .undef, .undef, .undef, .undef, .undef, .undef, .undef, .undef, .undef, .undef, .undef, .undef, .undef, .undef], h⟩
abbrev s_ref04_Deep_K0 (t1 t2 t6 : AV) (h : Heap) : St := ⟨[.undef, t1, t2, .undef, .undef, .undef, t6, .undef, .undef, .undef, .undef, .undef, .undef, .undef, .undef, .undef, .undef, .undef, .undef, .undef, .undef, .undef, .undef, .undef, .undef, .undef, .undef, .undef, .undef, .undef, .undef, .undef, .undef, .undef, .undef, .undef, .undef, .undef, .undef, .undef, .undef, .undef, .undef], h⟩
def i_ref04_Deep_b0 : IR :=
  (.seq
   (.seq
    (.reg [] [
      ⟨(some 27), .mv (.t 6), none, []⟩,
      ⟨(some 28), .fa 4 (.t 2), none, []⟩,
      ⟨(some 29), .load false 1 (.t 28), none, []⟩,
      ⟨(some 30), .len false (.t 29), none, []⟩,
      ⟨(some 31), .bin .plain .lss (.t 27) (.t 30), none, []⟩])
    (.cond (.t 31)
     .skip
     (.exit 0 i_ref04_Deep_j0)))
   (.seq
    (.block 1 i_ref04_Deep_j1
     (.seq
      (.reg [] [
        ⟨(some 34), .fa 4 (.t 2), none, []⟩,
        ⟨(some 35), .load false 1 (.t 34), none, []⟩,
        ⟨(some 36), .mv (.t 6), none, []⟩,
        ⟨(some 37), .ia 5 (.t 35) (.t 36), none, []⟩,
        ⟨(some 38), .load true 5 (.t 37), none, []⟩,
        ⟨(some 39), .mv (.t 1), none, []⟩,
        ⟨(some 40), .bin .plain .sub (.t 39) (.k (.int .i64 1)), none, []⟩,
        ⟨(some 41), .qcall n_ref04_Deep [(.t 38), (.t 40)] [], none, []⟩,
        ⟨(some 7), .mv (.t 41), none, []⟩])
      (.seq
       (.reg [] [
         ⟨(some 42), .mv (.t 7), none, []⟩])
       (.cond (.t 42)
        (.seq
         (.reg [] [
           ⟨(some 4), .mv (.k (.bool true)), none, []⟩])
         (.ret i_ref04_Deep_r))
        .skip))))
    (.reg [] [
      ⟨(some 32), .mv (.t 6), none, []⟩,
      ⟨(some 33), .bin .plain .add (.t 32) (.k (.int .i64 1)), none, []⟩,
      ⟨(some 6), .mv (.t 33), none, []⟩])))

abbrev s_ref04_Deep_J0 (h : Heap) : St := ⟨[.undef, .undef, .undef, .undef, .undef, .undef, .undef, .undef, .undef, .undef, .undef, .undef, .undef, .undef, .undef, .undef, .undef, .undef, .undef, .undef, .undef, .undef, .undef, .undef, .undef, .undef, .undef, .undef, .undef, .undef, .undef, .undef, .undef, .undef, .undef, .undef, .undef, .undef, .undef, .undef, .undef, .undef, .undef], h⟩
/-- heartwood/heartwoodref04.Deep -/
def i_ref04_Deep : Ev.Fn := ⟨2, 43, 1,
  (.seq
   (.reg [] [
     ⟨(some 2), .box 0 5 (.t 0), none, []⟩,
     ⟨(some 4), .mv (.k (.bool false)), none, []⟩])
   (.seq
    (.reg [] [
      ⟨(some 8), .fa 0 (.t 2), none, []⟩,
      ⟨(some 9), .load false 1 (.t 8), none, []⟩,
      ⟨(some 10), .bin .plain .eql (.t 9) (.k (.int .i64 1)), none, []⟩,
      ⟨(some 11), .mv (.t 10), none, []⟩,
      ⟨(some 12), .fa 0 (.t 2), (some (11, false)), []⟩,
      ⟨(some 13), .load false 1 (.t 12), (some (11, false)), []⟩,
      ⟨(some 14), .bin .plain .eql (.t 13) (.k (.int .i64 2)), (some (11, false)), []⟩,
      ⟨(some 15), .pick (.t 11) (.k (.bool true)) (.t 14), none, []⟩,
      ⟨(some 16), .mv (.t 15), none, []⟩,
      ⟨(some 17), .fa 4 (.t 2), (some (16, false)), []⟩,
      ⟨(some 18), .load false 1 (.t 17), (some (16, false)), []⟩,
      ⟨(some 19), .len false (.t 18), (some (16, false)), []⟩,
      ⟨(some 20), .bin .plain .gtr (.t 19) (.k (.int .i64 0)), (some (16, false)), []⟩,
      ⟨(some 21), .pick (.t 16) (.k (.bool true)) (.t 20), none, []⟩,
      ⟨(some 5), .mv (.t 21), none, []⟩])
    (.seq
     (.seq
      (.reg [] [
        ⟨(some 22), .mv (.t 5), none, []⟩,
        ⟨(some 23), .mv (.t 22), none, []⟩,
        ⟨(some 24), .mv (.t 1), (some (23, true)), []⟩,
        ⟨(some 25), .bin .plain .eql (.t 24) (.k (.int .i64 0)), (some (23, true)), []⟩,
        ⟨(some 26), .pick (.t 23) (.t 25) (.k (.bool false)), none, []⟩])
      (.cond (.t 26)
       (.seq
        (.reg [] [
          ⟨(some 4), .mv (.k (.bool true)), none, []⟩])
        (.ret i_ref04_Deep_r))
       .skip))
     (.seq
      (.seq
       (.reg [] [
         ⟨(some 6), .mv (.k (.int .i64 0)), none, []⟩])
       (.block 0 i_ref04_Deep_j0
        (.loop i_ref04_Deep_k0 i_ref04_Deep_b0)))
      (.seq
       (.reg [] [
         ⟨(some 4), .mv (.k (.bool false)), none, []⟩])
       (.ret i_ref04_Deep_r)))))),
  [.tmp 4], [], false, []⟩

def i_ref04_Formed_r : List Bool := [false, false, true, false, false, false, false, false, false, false, false, false, false, false, false, false, false, false, false, false, false, false, false, false, false, false, false, false, false, false, false, false, false, false, false, false, false, false, false, false, false, false, false, false, false, false, false, false, false, false, false, false, false, false, false, false, false, false, false, false, false, false, false, false, false, false, false, false, false, false, false, false, false, false, false, false, false, false, false, false, false, false, false, false, false, false, false, false, false, false, false, false, false, false]
def i_ref04_Formed_j0 : List Bool := [false, true, false, false, false, false, true, true, false, false, false, false, false, false, false, false, false, false, false, false, false, false, false, false, false, false, false, false, false, false, false, false, false, false, false, false, false, false, false, false, false, false, false, false, false, false, false, false, false, false, false, false, false, false, false, false, false, false, false, false, false, false, false, false, false, false, false, false, false, false, false, false, false, false, false, false, false, false, false, false, false, false, false, false, false, false, false, false, false, false, false, false, false, false]
def i_ref04_Formed_j2 : List Bool := [false, true, false, false, false, false, true, true, true, false, false, false, false, false, false, false, false, false, false, false, false, false, false, false, false, false, false, false, false, false, false, false, false, false, false, false, false, false, false, false, false, false, false, false, false, false, false, false, false, false, false, false, false, false, false, false, false, false, false, false, false, false, false, false, false, false, false, false, false, false, false, false, false, false, false, false, false, false, false, false, false, false, false, false, false, false, false, false, false, false, false, false, false, false]
def i_ref04_Formed_k0 : List Bool := [false, true, false, false, false, false, true, true, true, false, false, false, false, false, false, false, false, false, false, false, false, false, false, false, false, false, false, false, false, false, false, false, false, false, false, false, false, false, false, false, false, false, false, false, false, false, false, false, false, false, false, false, false, false, false, false, false, false, false, false, false, false, false, false, false, false, false, false, false, false, false, false, false, false, false, false, false, false, false, false, false, false, false, false, false, false, false, false, false, false, false, false, false, false]
def i_ref04_Formed_j1 : List Bool := [false, false, false, false, false, false, false, true, false, false, false, false, false, false, false, false, false, false, false, false, false, false, false, false, false, false, false, false, false, false, false, false, false, false, false, false, false, false, false, false, false, false, false, false, false, false, false, false, false, false, false, false, false, false, false, false, false, false, false, false, false, false, false, false, false, false, false, false, false, false, false, false, false, false, false, false, false, false, false, false, false, false, false, false, false, false, false, false, false, false, false, false, false, false]
abbrev s_ref04_Formed_R (t2 : AV) (h : Heap) : St := ⟨[.undef, .undef, t2, .undef, .undef, .undef, .undef, .undef, .undef, .undef, .undef, .undef, .undef, .undef, .undef, .undef, .undef, .undef, .undef, .undef, .undef, .undef, .undef, .undef, .undef, .undef, .undef, .undef, .undef, .undef, .undef, .undef, .undef, .undef, .undef, .undef, .undef, .undef, .undef, .undef, .undef, .undef, .undef, .undef, .undef, .undef, .undef, .undef, .undef, .undef, .undef, .undef, .undef, .undef, .undef, .undef, .undef, .undef, .undef, .undef, .undef, .undef, .undef, .undef, .undef, .undef, .undef, .undef, .undef, .undef, .undef, .undef, .undef, .undef, .undef, .undef, .undef, .undef, .undef, .undef, .undef, .undef, .undef, .undef, .undef, .undef, .undef, .undef, .undef, .undef, .undef, .undef, .undef, .undef], h⟩
abbrev s_ref04_Formed_K0 (t1 t6 t7 t8 : AV) (h : Heap) : St := ⟨[.undef, t1, .undef, .undef, .undef, .undef, t6, t7, t8, .undef, .undef, .undef, .undef, .undef, .undef, .undef, .undef, .undef, .undef, .undef, .undef, .undef, .undef, .undef, .undef, .undef, .undef, .undef, .undef, .undef, .undef, .undef, .undef, .undef, .undef, .undef, .undef, .undef, .undef, .undef, .undef, .undef, .undef, .undef, .undef, .undef, .undef, .undef, .undef, .undef, .undef, .undef, .undef, .undef, .undef, .undef, .undef, .undef, .undef, .undef, .undef, .undef, .undef, .undef, .undef, .undef, .undef, .undef, .undef, .undef, .undef, .undef, .undef, .undef, .undef, .undef, .undef, .undef, .undef, .undef, .undef, .undef, .undef, .undef, .undef, .undef, .undef, .undef, .undef, .undef, .undef, .undef, .undef, .undef], h⟩
def i_ref04_Formed_b0 : IR :=
  (.seq
   (.seq
    (.reg [] [
      ⟨(some 79), .mv (.t 8), none, []⟩,
      ⟨(some 80), .mv (.t 6), none, []⟩,
      ⟨(some 81), .bin .plain .lss (.t 79) (.t 80), none, []⟩,
      ⟨(some 82), .mv (.t 81), none, []⟩,
      ⟨(some 83), .mv (.t 7), (some (82, true)), []⟩,
      ⟨(some 84), .pick (.t 82) (.t 83) (.k (.bool false)), none, []⟩])
    (.cond (.t 84)
     .skip
     (.exit 1 i_ref04_Formed_j1)))
   (.seq
    (.block 2 i_ref04_Formed_j2
     (.reg [] [
       ⟨(some 87), .fa 4 (.t 1), none, []⟩,
       ⟨(some 88), .load false 1 (.t 87), none, []⟩,
       ⟨(some 89), .mv (.t 8), none, []⟩,
       ⟨(some 90), .ia 5 (.t 88) (.t 89), none, []⟩,
       ⟨(some 91), .load true 5 (.t 90), none, []⟩,
       ⟨(some 92), .qcall n_ref04_Formed [(.t 91)] [], none, []⟩,
       ⟨(some 7), .mv (.t 92), none, []⟩]))
    (.reg [] [
      ⟨(some 85), .mv (.t 8), none, []⟩,
      ⟨(some 86), .bin .plain .add (.t 85) (.k (.int .i64 1)), none, []⟩,
      ⟨(some 8), .mv (.t 86), none, []⟩])))

abbrev s_ref04_Formed_J1 (t7 : AV) (h : Heap) : St := ⟨[.undef, .undef, .undef, .undef, .undef, .undef, .undef, t7, .undef, .undef, .undef, .undef, .undef, .undef, .undef, .undef, .undef, .undef, .undef, .undef, .undef, .undef, .undef, .undef, .undef, .undef, .undef, .undef, .undef, .undef, .undef, .undef, .undef, .undef, .undef, .undef, .undef, .undef, .undef, .undef, .undef, .undef, .undef, .undef, .undef, .undef, .undef, .undef, .undef, .undef, .undef, .undef, .undef, .undef, .undef, .undef, .undef, .undef, .undef, .undef, .undef, .undef, .undef, .undef, .undef, .undef, .undef, .undef, .undef, .undef, .undef, .undef, .undef, .undef, .undef, .undef, .undef, .undef, .undef, .undef, .undef, .undef, .undef, .undef, .undef, .undef, .undef, .undef, .undef, .undef, .undef, .undef, .undef, .undef], h⟩
/-- heartwood/heartwoodref04.Formed -/
def i_ref04_Formed : Ev.Fn := ⟨1, 94, 1,
  (.seq
   (.reg [] [
     ⟨(some 1), .box 0 5 (.t 0), none, []⟩,
     ⟨(some 2), .mv (.k (.bool false)), none, []⟩])
   (.seq
    (.reg [] [
      ⟨(some 9), .fa 1 (.t 1), none, []⟩,
      ⟨(some 10), .load false 1 (.t 9), none, []⟩,
      ⟨(some 11), .len false (.t 10), none, []⟩,
      ⟨(some 3), .mv (.t 11), none, []⟩])
    (.seq
     (.reg [] [
       ⟨(some 12), .fa 2 (.t 1), none, []⟩,
       ⟨(some 13), .load false 1 (.t 12), none, []⟩,
       ⟨(some 14), .len false (.t 13), none, []⟩,
       ⟨(some 4), .mv (.t 14), none, []⟩])
     (.seq
      (.reg [] [
        ⟨(some 15), .fa 3 (.t 1), none, []⟩,
        ⟨(some 16), .load false 1 (.t 15), none, []⟩,
        ⟨(some 17), .len false (.t 16), none, []⟩,
        ⟨(some 5), .mv (.t 17), none, []⟩])
      (.seq
       (.reg [] [
         ⟨(some 18), .fa 4 (.t 1), none, []⟩,
         ⟨(some 19), .load false 1 (.t 18), none, []⟩,
         ⟨(some 20), .len false (.t 19), none, []⟩,
         ⟨(some 6), .mv (.t 20), none, []⟩])
       (.seq
        (.reg [] [
          ⟨(some 7), .mv (.k (.bool false)), none, []⟩])
        (.seq
         (.seq
          (.reg [] [
            ⟨(some 21), .fa 0 (.t 1), none, []⟩,
            ⟨(some 22), .load false 1 (.t 21), none, []⟩])
          (.block 0 i_ref04_Formed_j0
           (.seq
            (.reg [] [
              ⟨(some 24), .bin .plain .eql (.t 22) (.k (.int .i64 0)), none, []⟩,
              ⟨(some 23), .mv (.t 24), none, []⟩])
            (.cond (.t 23)
             (.reg [] [
               ⟨(some 25), .mv (.t 3), none, []⟩,
               ⟨(some 26), .bin .plain .eql (.t 25) (.k (.int .i64 0)), none, []⟩,
               ⟨(some 27), .mv (.t 26), none, []⟩,
               ⟨(some 28), .mv (.t 4), (some (27, true)), []⟩,
               ⟨(some 29), .bin .plain .eql (.t 28) (.k (.int .i64 0)), (some (27, true)), []⟩,
               ⟨(some 30), .pick (.t 27) (.t 29) (.k (.bool false)), none, []⟩,
               ⟨(some 31), .mv (.t 30), none, []⟩,
               ⟨(some 32), .mv (.t 5), (some (31, true)), []⟩,
               ⟨(some 33), .bin .plain .eql (.t 32) (.k (.int .i64 0)), (some (31, true)), []⟩,
               ⟨(some 34), .pick (.t 31) (.t 33) (.k (.bool false)), none, []⟩,
               ⟨(some 35), .mv (.t 34), none, []⟩,
               ⟨(some 36), .mv (.t 6), (some (35, true)), []⟩,
               ⟨(some 37), .bin .plain .eql (.t 36) (.k (.int .i64 0)), (some (35, true)), []⟩,
               ⟨(some 38), .pick (.t 35) (.t 37) (.k (.bool false)), none, []⟩,
               ⟨(some 7), .mv (.t 38), none, []⟩])
             (.seq
              (.reg [] [
                ⟨(some 40), .bin .plain .eql (.t 22) (.k (.int .i64 1)), none, []⟩,
                ⟨(some 39), .mv (.t 40), none, []⟩])
              (.cond (.t 39)
               (.reg [] [
                 ⟨(some 41), .mv (.t 3), none, []⟩,
                 ⟨(some 42), .bin .plain .leq (.t 41) (.k (.int .i64 80)), none, []⟩,
                 ⟨(some 43), .mv (.t 42), none, []⟩,
                 ⟨(some 44), .mv (.t 4), (some (43, true)), []⟩,
                 ⟨(some 45), .bin .plain .leq (.t 44) (.k (.int .i64 1024)), (some (43, true)), []⟩,
                 ⟨(some 46), .pick (.t 43) (.t 45) (.k (.bool false)), none, []⟩,
                 ⟨(some 47), .mv (.t 46), none, []⟩,
                 ⟨(some 48), .mv (.t 5), (some (47, true)), []⟩,
                 ⟨(some 49), .bin .plain .eql (.t 48) (.k (.int .i64 0)), (some (47, true)), []⟩,
                 ⟨(some 50), .pick (.t 47) (.t 49) (.k (.bool false)), none, []⟩,
                 ⟨(some 51), .mv (.t 50), none, []⟩,
                 ⟨(some 52), .mv (.t 6), (some (51, true)), []⟩,
                 ⟨(some 53), .bin .plain .eql (.t 52) (.k (.int .i64 2)), (some (51, true)), []⟩,
                 ⟨(some 54), .pick (.t 51) (.t 53) (.k (.bool false)), none, []⟩,
                 ⟨(some 7), .mv (.t 54), none, []⟩])
               (.seq
                (.reg [] [
                  ⟨(some 56), .bin .plain .eql (.t 22) (.k (.int .i64 2)), none, []⟩,
                  ⟨(some 55), .mv (.t 56), none, []⟩])
                (.cond (.t 55)
                 (.reg [] [
                   ⟨(some 57), .mv (.t 3), none, []⟩,
                   ⟨(some 58), .bin .plain .leq (.t 57) (.k (.int .i64 80)), none, []⟩,
                   ⟨(some 59), .mv (.t 58), none, []⟩,
                   ⟨(some 60), .mv (.t 4), (some (59, true)), []⟩,
                   ⟨(some 61), .bin .plain .eql (.t 60) (.k (.int .i64 0)), (some (59, true)), []⟩,
                   ⟨(some 62), .pick (.t 59) (.t 61) (.k (.bool false)), none, []⟩,
                   ⟨(some 63), .mv (.t 62), none, []⟩,
                   ⟨(some 64), .mv (.t 6), (some (63, true)), []⟩,
                   ⟨(some 65), .bin .plain .eql (.t 64) (.k (.int .i64 2)), (some (63, true)), []⟩,
                   ⟨(some 66), .pick (.t 63) (.t 65) (.k (.bool false)), none, []⟩,
                   ⟨(some 7), .mv (.t 66), none, []⟩])
                 (.seq
                  (.reg [] [
                    ⟨(some 68), .bin .plain .eql (.t 22) (.k (.int .i64 3)), none, []⟩,
                    ⟨(some 67), .mv (.t 68), none, []⟩])
                  (.cond (.t 67)
                   (.reg [] [
                     ⟨(some 69), .mv (.t 3), none, []⟩,
                     ⟨(some 70), .bin .plain .eql (.t 69) (.k (.int .i64 0)), none, []⟩,
                     ⟨(some 71), .mv (.t 70), none, []⟩,
                     ⟨(some 72), .mv (.t 4), (some (71, true)), []⟩,
                     ⟨(some 73), .bin .plain .eql (.t 72) (.k (.int .i64 0)), (some (71, true)), []⟩,
                     ⟨(some 74), .pick (.t 71) (.t 73) (.k (.bool false)), none, []⟩,
                     ⟨(some 75), .mv (.t 74), none, []⟩,
                     ⟨(some 76), .mv (.t 6), (some (75, true)), []⟩,
                     ⟨(some 77), .bin .plain .eql (.t 76) (.k (.int .i64 0)), (some (75, true)), []⟩,
                     ⟨(some 78), .pick (.t 75) (.t 77) (.k (.bool false)), none, []⟩,
                     ⟨(some 7), .mv (.t 78), none, []⟩])
                   .skip))))))))))
         (.seq
          (.seq
           (.reg [] [
             ⟨(some 8), .mv (.k (.int .i64 0)), none, []⟩])
           (.block 1 i_ref04_Formed_j1
            (.loop i_ref04_Formed_k0 i_ref04_Formed_b0)))
          (.seq
           (.reg [] [
             ⟨(some 93), .mv (.t 7), none, []⟩,
             ⟨(some 2), .mv (.t 93), none, []⟩])
           (.ret i_ref04_Formed_r)))))))))),
  [.tmp 2], [], false, []⟩

def i_ref10_long_r : List Bool := [false, false, true, false, false, false, false, false, false, false, false, false, false, false, false, false, false, false, false, false, false, false, false]
def i_ref10_long_j1 : List Bool := [false, true, false, true, false, false, false, false, false, false, false, false, false, false, false, false, false, false, false, false, false, false, false]
def i_ref10_long_k0 : List Bool := [false, true, false, true, false, false, false, false, false, false, false, false, false, false, false, false, false, false, false, false, false, false, false]
def i_ref10_long_j0 : List Bool := [false, false, false, false, false, false, false, false, false, false, false, false, false, false, false, false, false, false, false, false, false, false, false]
abbrev s_ref10_long_R (t2 : AV) (h : Heap) : St := ⟨[.undef, .undef, t2, .undef, .undef, .undef, .undef, .undef, .undef, .undef, .undef, .undef, .undef, .undef, .undef, .undef, .undef, .undef, .undef, .undef, .undef, .undef, .undef], h⟩
abbrev s_ref10_long_K0 (t1 t3 : AV) (h : Heap) : St := ⟨[.undef, t1, .undef, t3, .undef, .undef, .undef, .undef, .undef, .undef, .undef, .undef, .undef, .undef, .undef, .undef, .undef, .undef, .undef, .undef, .undef, .undef, .undef], h⟩
def i_ref10_long_b0 : IR :=
  (.seq
   (.seq
    (.reg [] [
      ⟨(some 9), .mv (.t 3), none, []⟩,
      ⟨(some 10), .fa 4 (.t 1), none, []⟩,
      ⟨(some 11), .load false 1 (.t 10), none, []⟩,
      ⟨(some 12), .len false (.t 11), none, []⟩,
      ⟨(some 13), .bin .plain .lss (.t 9) (.t 12), none, []⟩])
    (.cond (.t 13)
     .skip
     (.exit 0 i_ref10_long_j0)))
   (.seq
    (.block 1 i_ref10_long_j1
     (.seq
      (.reg [] [
        ⟨(some 16), .fa 4 (.t 1), none, []⟩,
        ⟨(some 17), .load false 1 (.t 16), none, []⟩,
        ⟨(some 18), .mv (.t 3), none, []⟩,
        ⟨(some 19), .ia 5 (.t 17) (.t 18), none, []⟩,
        ⟨(some 20), .load true 5 (.t 19), none, []⟩,
        ⟨(some 21), .qcall n_ref10_long [(.t 20)] [], none, []⟩,
        ⟨(some 4), .mv (.t 21), none, []⟩])
      (.seq
       (.reg [] [
         ⟨(some 22), .mv (.t 4), none, []⟩])
       (.cond (.t 22)
        (.seq
         (.reg [] [
           ⟨(some 2), .mv (.k (.bool true)), none, []⟩])
         (.ret i_ref10_long_r))
        .skip))))
    (.reg [] [
      ⟨(some 14), .mv (.t 3), none, []⟩,
      ⟨(some 15), .bin .plain .add (.t 14) (.k (.int .i64 1)), none, []⟩,
      ⟨(some 3), .mv (.t 15), none, []⟩])))

abbrev s_ref10_long_J0 (h : Heap) : St := ⟨[.undef, .undef, .undef, .undef, .undef, .undef, .undef, .undef, .undef, .undef, .undef, .undef, .undef, .undef, .undef, .undef, .undef, .undef, .undef, .undef, .undef, .undef, .undef], h⟩
/-- heartwood/heartwoodref10.long -/
def i_ref10_long : Ev.Fn := ⟨1, 23, 1,
  (.seq
   (.reg [] [
     ⟨(some 1), .box 0 5 (.t 0), none, []⟩,
     ⟨(some 2), .mv (.k (.bool false)), none, []⟩])
   (.seq
    (.seq
     (.reg [] [
       ⟨(some 5), .fa 3 (.t 1), none, []⟩,
       ⟨(some 6), .load false 1 (.t 5), none, []⟩,
       ⟨(some 7), .len false (.t 6), none, []⟩,
       ⟨(some 8), .bin .plain .gtr (.t 7) (.k (.int .i64 32)), none, []⟩])
     (.cond (.t 8)
      (.seq
       (.reg [] [
         ⟨(some 2), .mv (.k (.bool true)), none, []⟩])
       (.ret i_ref10_long_r))
      .skip))
    (.seq
     (.seq
      (.reg [] [
        ⟨(some 3), .mv (.k (.int .i64 0)), none, []⟩])
      (.block 0 i_ref10_long_j0
       (.loop i_ref10_long_k0 i_ref10_long_b0)))
     (.seq
      (.reg [] [
        ⟨(some 2), .mv (.k (.bool false)), none, []⟩])
      (.ret i_ref10_long_r))))),
  [.tmp 2], [], false, []⟩

def i_ref10_bytes_r : List Bool := [false, false, true, false, false, false, false, false, false, false, false, false, false, false, false, false, false, false, false, false, false, false, false, false, false, false, false, false, false, false, false, false, false, false, false, false, false, false, false, false, false, false, false, false, false, false, false, false, false, false, false, false, false, false]
def i_ref10_bytes_j1 : List Bool := [false, true, false, true, true, false, false, false, false, false, false, false, false, false, false, false, false, false, false, false, false, false, false, false, false, false, false, false, false, false, false, false, false, false, false, false, false, false, false, false, false, false, false, false, false, false, false, false, false, false, false, false, false, false]
def i_ref10_bytes_k0 : List Bool := [false, true, false, true, true, false, false, false, false, false, false, false, false, false, false, false, false, false, false, false, false, false, false, false, false, false, false, false, false, false, false, false, false, false, false, false, false, false, false, false, false, false, false, false, false, false, false, false, false, false, false, false, false, false]
def i_ref10_bytes_j0 : List Bool := [false, false, false, true, false, false, false, false, false, false, false, false, false, false, false, false, false, false, false, false, false, false, false, false, false, false, false, false, false, false, false, false, false, false, false, false, false, false, false, false, false, false, false, false, false, false, false, false, false, false, false, false, false, false]
abbrev s_ref10_bytes_R (t2 : AV) (h : Heap) : St := ⟨[.undef, .undef, t2, .undef, .undef, .undef, .undef, .undef, .undef, .undef, .undef, .undef, .undef, .undef, .undef, .undef, .undef, .undef, .undef, .undef, .undef, .undef, .undef, .undef, .undef, .undef, .undef, .undef, .undef, .undef, .undef, .undef, .undef, .undef, .undef, .undef, .undef, .undef, .undef, .undef, .undef, .undef, .undef, .undef, .undef, .undef, .undef, .undef, .undef, .undef, .undef, .undef, .undef, .undef], h⟩
abbrev s_ref10_bytes_K0 (t1 t3 t4 : AV) (h : Heap) : St := ⟨[.undef, t1, .undef, t3, t4, .undef, .undef, .undef, .undef, .undef, .undef, .undef, .undef, .undef, .undef, .undef, .undef, .undef, .undef, .undef, .undef, .undef, .undef, .undef, .undef, .undef, .undef, .undef, .undef, .undef, .undef, .undef, .undef, .undef, .undef, .undef, .undef, .undef, .undef, .undef, .undef, .undef, .undef, .undef, .undef, .undef, .undef, .undef, .undef, .undef, .undef, .undef, .undef, .undef], h⟩
def i_ref10_bytes_b0 : IR :=
  (.seq
   (.seq
    (.reg [] [
      ⟨(some 38), .mv (.t 4), none, []⟩,
      ⟨(some 39), .fa 4 (.t 1), none, []⟩,
      ⟨(some 40), .load false 1 (.t 39), none, []⟩,
      ⟨(some 41), .len false (.t 40), none, []⟩,
      ⟨(some 42), .bin .plain .lss (.t 38) (.t 41), none, []⟩])
    (.cond (.t 42)
     .skip
     (.exit 0 i_ref10_bytes_j0)))
   (.seq
    (.block 1 i_ref10_bytes_j1
     (.reg [] [
       ⟨(some 45), .mv (.t 3), none, []⟩,
       ⟨(some 46), .fa 4 (.t 1), none, []⟩,
       ⟨(some 47), .load false 1 (.t 46), none, []⟩,
       ⟨(some 48), .mv (.t 4), none, []⟩,
       ⟨(some 49), .ia 5 (.t 47) (.t 48), none, []⟩,
       ⟨(some 50), .load true 5 (.t 49), none, []⟩,
       ⟨(some 51), .qcall n_ref10_bytes [(.t 50)] [], none, []⟩,
       ⟨(some 52), .app 1 ty_uint8 1 1 (.t 45) (.t 51), none, []⟩,
       ⟨(some 3), .mv (.t 52), none, []⟩]))
    (.reg [] [
      ⟨(some 43), .mv (.t 4), none, []⟩,
      ⟨(some 44), .bin .plain .add (.t 43) (.k (.int .i64 1)), none, []⟩,
      ⟨(some 4), .mv (.t 44), none, []⟩])))

abbrev s_ref10_bytes_J0 (t3 : AV) (h : Heap) : St := ⟨[.undef, .undef, .undef, t3, .undef, .undef, .undef, .undef, .undef, .undef, .undef, .undef, .undef, .undef, .undef, .undef, .undef, .undef, .undef, .undef, .undef, .undef, .undef, .undef, .undef, .undef, .undef, .undef, .undef, .undef, .undef, .undef, .undef, .undef, .undef, .undef, .undef, .undef, .undef, .undef, .undef, .undef, .undef, .undef, .undef, .undef, .undef, .undef, .undef, .undef, .undef, .undef, .undef, .undef], h⟩
/-- heartwood/heartwoodref10.bytes -/
def i_ref10_bytes : Ev.Fn := ⟨1, 54, 2,
  (.seq
   (.reg [] [
     ⟨(some 1), .box 0 5 (.t 0), none, []⟩,
     ⟨(some 2), .cn (.k (.slice none 0 0)), none, []⟩])
   (.seq
    (.reg [] [
      ⟨(some 5), .fa 0 (.t 1), none, []⟩,
      ⟨(some 6), .load false 1 (.t 5), none, []⟩,
      ⟨(some 7), .conv .u8 (.t 6), none, []⟩,
      ⟨(some 8), .lit 1 ty_uint8 1 1 [(.int .u8 0)] [(0, (.t 7))], none, []⟩,
      ⟨(some 3), .mv (.t 8), none, []⟩])
    (.seq
     (.seq
      (.reg [] [
        ⟨(some 9), .fa 0 (.t 1), none, []⟩,
        ⟨(some 10), .load false 1 (.t 9), none, []⟩,
        ⟨(some 11), .bin .plain .eql (.t 10) (.k (.int .i64 1)), none, []⟩,
        ⟨(some 12), .mv (.t 11), none, []⟩,
        ⟨(some 13), .fa 0 (.t 1), (some (12, false)), []⟩,
        ⟨(some 14), .load false 1 (.t 13), (some (12, false)), []⟩,
        ⟨(some 15), .bin .plain .eql (.t 14) (.k (.int .i64 2)), (some (12, false)), []⟩,
        ⟨(some 16), .pick (.t 12) (.k (.bool true)) (.t 15), none, []⟩])
      (.cond (.t 16)
       (.reg [] [
         ⟨(some 17), .mv (.t 3), none, []⟩,
         ⟨(some 18), .fa 1 (.t 1), none, []⟩,
         ⟨(some 19), .load false 1 (.t 18), none, []⟩,
         ⟨(some 20), .qcall n_ref02_Bytes [(.t 19)] [], none, []⟩,
         ⟨(some 21), .app 1 ty_uint8 1 1 (.t 17) (.t 20), none, []⟩,
         ⟨(some 3), .mv (.t 21), none, []⟩])
       .skip))
     (.seq
      (.seq
       (.reg [] [
         ⟨(some 22), .fa 0 (.t 1), none, []⟩,
         ⟨(some 23), .load false 1 (.t 22), none, []⟩,
         ⟨(some 24), .bin .plain .eql (.t 23) (.k (.int .i64 1)), none, []⟩])
       (.cond (.t 24)
        (.reg [] [
          ⟨(some 25), .mv (.t 3), none, []⟩,
          ⟨(some 26), .fa 2 (.t 1), none, []⟩,
          ⟨(some 27), .load false 1 (.t 26), none, []⟩,
          ⟨(some 28), .qcall n_ref02_Bytes [(.t 27)] [], none, []⟩,
          ⟨(some 29), .app 1 ty_uint8 1 1 (.t 25) (.t 28), none, []⟩,
          ⟨(some 3), .mv (.t 29), none, []⟩])
        .skip))
      (.seq
       (.seq
        (.reg [] [
          ⟨(some 30), .fa 0 (.t 1), none, []⟩,
          ⟨(some 31), .load false 1 (.t 30), none, []⟩,
          ⟨(some 32), .bin .plain .gtr (.t 31) (.k (.int .i64 1)), none, []⟩])
        (.cond (.t 32)
         (.reg [] [
           ⟨(some 33), .mv (.t 3), none, []⟩,
           ⟨(some 34), .fa 3 (.t 1), none, []⟩,
           ⟨(some 35), .load false 1 (.t 34), none, []⟩,
           ⟨(some 36), .qcall n_ref02_Bytes [(.t 35)] [], none, []⟩,
           ⟨(some 37), .app 1 ty_uint8 1 1 (.t 33) (.t 36), none, []⟩,
           ⟨(some 3), .mv (.t 37), none, []⟩])
         .skip))
       (.seq
        (.seq
         (.reg [] [
           ⟨(some 4), .mv (.k (.int .i64 0)), none, []⟩])
         (.block 0 i_ref10_bytes_j0
          (.loop i_ref10_bytes_k0 i_ref10_bytes_b0)))
        (.seq
         (.reg [] [
           ⟨(some 53), .cn (.t 3), none, [3]⟩,
           ⟨(some 2), .cn (.t 53), none, [53]⟩])
         (.ret i_ref10_bytes_r)))))))),
  [.tmp 2], [], false, []⟩

def i_ref02_Bytes_r : List Bool := [false, false, true, false, false, false, false, false, false]
/-- heartwood/heartwoodref02.Bytes -/
def i_ref02_Bytes : Ev.Fn := ⟨1, 9, 2,
  (.seq
   (.reg [] [
     ⟨(some 2), .cn (.k (.slice none 0 0)), none, []⟩])
   (.seq
    (.reg [] [
      ⟨(some 3), .cn (.t 0), none, []⟩,
      ⟨(some 4), .len false (.t 3), none, []⟩,
      ⟨(some 5), .conv .u64 (.t 4), none, []⟩,
      ⟨(some 6), .qcall n_ref02_Number [(.t 5)] [0], none, []⟩,
      ⟨(some 7), .cn (.t 0), none, []⟩,
      ⟨(some 8), .app 1 ty_uint8 1 1 (.t 6) (.t 7), none, []⟩,
      ⟨(some 2), .cn (.t 8), none, [8]⟩])
    (.ret i_ref02_Bytes_r))),
  [.tmp 2], [], false, []⟩

def i_ref02_Number_r : List Bool := [false, false, true, false, false, false, false, false, false, false, false, false, false, false, false, false, false, false, false, false, false, false, false, false, false, false]
def i_ref02_Number_j1 : List Bool := [true, false, false, true, false, false, false, false, false, false, false, false, false, false, false, false, false, false, false, false, false, false, false, false, false, false]
def i_ref02_Number_k0 : List Bool := [true, false, false, true, false, false, false, false, false, false, false, false, false, false, false, false, false, false, false, false, false, false, false, false, false, false]
def i_ref02_Number_j0 : List Bool := [false, false, false, true, false, false, false, false, false, false, false, false, false, false, false, false, false, false, false, false, false, false, false, false, false, false]
abbrev s_ref02_Number_R (t2 : AV) (h : Heap) : St := ⟨[.undef, .undef, t2, .undef, .undef, .undef, .undef, .undef, .undef, .undef, .undef, .undef, .undef, .undef, .undef, .undef, .undef, .undef, .undef, .undef, .undef, .undef, .undef, .undef, .undef, .undef], h⟩
abbrev s_ref02_Number_K0 (t0 t3 : AV) (h : Heap) : St := ⟨[t0, .undef, .undef, t3, .undef, .undef, .undef, .undef, .undef, .undef, .undef, .undef, .undef, .undef, .undef, .undef, .undef, .undef, .undef, .undef, .undef, .undef, .undef, .undef, .undef, .undef], h⟩
def i_ref02_Number_b0 : IR :=
  (.seq
   (.seq
    (.reg [] [
      ⟨(some 9), .mv (.t 0), none, []⟩,
      ⟨(some 10), .bin .plain .gtr (.t 9) (.k (.int .u64 0)), none, []⟩])
    (.cond (.t 10)
     .skip
     (.exit 0 i_ref02_Number_j0)))
   (.block 1 i_ref02_Number_j1
    (.seq
     (.reg [] [
       ⟨(some 11), .mv (.t 0), none, []⟩,
       ⟨(some 12), .bin .plain .rem (.t 11) (.k (.int .u64 256)), none, []⟩,
       ⟨(some 13), .conv .u8 (.t 12), none, []⟩,
       ⟨(some 14), .lit 1 ty_uint8 1 1 [(.int .u8 0)] [(0, (.t 13))], none, []⟩,
       ⟨(some 15), .cn (.t 3), none, []⟩,
       ⟨(some 16), .app 1 ty_uint8 1 1 (.t 14) (.t 15), none, []⟩,
       ⟨(some 3), .cn (.t 16), none, [16]⟩])
     (.reg [] [
       ⟨(some 17), .mv (.t 0), none, []⟩,
       ⟨(some 18), .bin .plain .quo (.t 17) (.k (.int .u64 256)), none, []⟩,
       ⟨(some 0), .mv (.t 18), none, []⟩]))))

abbrev s_ref02_Number_J0 (t3 : AV) (h : Heap) : St := ⟨[.undef, .undef, .undef, t3, .undef, .undef, .undef, .undef, .undef, .undef, .undef, .undef, .undef, .undef, .undef, .undef, .undef, .undef, .undef, .undef, .undef, .undef, .undef, .undef, .undef, .undef], h⟩
/-- heartwood/heartwoodref02.Number -/
def i_ref02_Number : Ev.Fn := ⟨1, 26, 2,
  (.seq
   (.reg [] [
     ⟨(some 2), .mv (.k (.slice none 0 0)), none, []⟩])
   (.seq
    (.seq
     (.reg [] [
       ⟨(some 4), .mv (.t 0), none, []⟩,
       ⟨(some 5), .bin .plain .lss (.t 4) (.k (.int .u64 248)), none, []⟩])
     (.cond (.t 5)
      (.seq
       (.reg [] [
         ⟨(some 6), .mv (.t 0), none, []⟩,
         ⟨(some 7), .conv .u8 (.t 6), none, []⟩,
         ⟨(some 8), .lit 0 ty_uint8 1 1 [(.int .u8 0)] [(0, (.t 7))], none, []⟩,
         ⟨(some 2), .mv (.t 8), none, []⟩])
       (.ret i_ref02_Number_r))
      .skip))
    (.seq
     (.reg [] [
       ⟨(some 3), .cn (.k (.slice none 0 0)), none, []⟩])
     (.seq
      (.block 0 i_ref02_Number_j0
       (.loop i_ref02_Number_k0 i_ref02_Number_b0))
      (.seq
       (.reg [] [
         ⟨(some 19), .cn (.t 3), none, []⟩,
         ⟨(some 20), .len false (.t 19), none, []⟩,
         ⟨(some 21), .bin .plain .add (.k (.int .i64 247)) (.t 20), none, []⟩,
         ⟨(some 22), .conv .u8 (.t 21), none, []⟩,
         ⟨(some 23), .lit 0 ty_uint8 1 1 [(.int .u8 0)] [(0, (.t 22))], none, []⟩,
         ⟨(some 24), .cn (.t 3), none, []⟩,
         ⟨(some 25), .app 0 ty_uint8 1 1 (.t 23) (.t 24), none, []⟩,
         ⟨(some 2), .mv (.t 25), none, []⟩])
       (.ret i_ref02_Number_r)))))),
  [.tmp 2], [true], false, []⟩

def i_law00_Code_r : List Bool := [false, false, true, false, false, false, false, false, false, false, false, false, false, false, false]
def i_law00_Code_j1 : List Bool := [true, false, false, true, false, false, false, false, false, false, false, false, false, false, false]
def i_law00_Code_k0 : List Bool := [true, false, false, true, false, false, false, false, false, false, false, false, false, false, false]
def i_law00_Code_j0 : List Bool := [false, false, false, false, false, false, false, false, false, false, false, false, false, false, false]
abbrev s_law00_Code_R (t2 : AV) (h : Heap) : St := ⟨[.undef, .undef, t2, .undef, .undef, .undef, .undef, .undef, .undef, .undef, .undef, .undef, .undef, .undef, .undef], h⟩
abbrev s_law00_Code_K0 (t0 t3 : AV) (h : Heap) : St := ⟨[t0, .undef, .undef, t3, .undef, .undef, .undef, .undef, .undef, .undef, .undef, .undef, .undef, .undef, .undef], h⟩
def i_law00_Code_b0 : IR :=
  (.seq
   (.seq
    (.reg [] [
      ⟨(some 6), .mv (.t 3), none, []⟩,
      ⟨(some 7), .bin .plain .leq (.t 6) (.k (.int .i64 13)), none, []⟩])
    (.cond (.t 7)
     .skip
     (.exit 0 i_law00_Code_j0)))
   (.seq
    (.block 1 i_law00_Code_j1
     (.seq
      (.reg [] [
        ⟨(some 10), .mv (.t 0), none, []⟩,
        ⟨(some 11), .mv (.t 3), none, []⟩,
        ⟨(some 12), .mki ty_api_Code (.t 11), none, []⟩,
        ⟨(some 13), .bin (.iface ty_api_Code false) .eql (.t 10) (.t 12), none, []⟩])
      (.cond (.t 13)
       (.seq
        (.reg [] [
          ⟨(some 14), .mv (.t 3), none, []⟩,
          ⟨(some 2), .mv (.t 14), none, []⟩])
        (.ret i_law00_Code_r))
       .skip)))
    (.reg [] [
      ⟨(some 8), .mv (.t 3), none, []⟩,
      ⟨(some 9), .bin .plain .add (.t 8) (.k (.int .i64 1)), none, []⟩,
      ⟨(some 3), .mv (.t 9), none, []⟩])))

abbrev s_law00_Code_J0 (h : Heap) : St := ⟨[.undef, .undef, .undef, .undef, .undef, .undef, .undef, .undef, .undef, .undef, .undef, .undef, .undef, .undef, .undef], h⟩
/-- heartwood/heartwoodlaw00.Code -/
def i_law00_Code : Ev.Fn := ⟨1, 15, 0,
  (.seq
   (.reg [] [
     ⟨(some 2), .mv (.k (.int .i64 0)), none, []⟩])
   (.seq
    (.seq
     (.reg [] [
       ⟨(some 4), .mv (.t 0), none, []⟩,
       ⟨(some 5), .bin (.iface ty_api_Code true) .eql (.t 4) (.k .nilIface), none, []⟩])
     (.cond (.t 5)
      (.seq
       (.reg [] [
         ⟨(some 2), .mv (.k (.int .i64 0)), none, []⟩])
       (.ret i_law00_Code_r))
      .skip))
    (.seq
     (.seq
      (.reg [] [
        ⟨(some 3), .mv (.k (.int .i64 1)), none, []⟩])
      (.block 0 i_law00_Code_j0
       (.loop i_law00_Code_k0 i_law00_Code_b0)))
     (.seq
      (.reg [] [
        ⟨(some 2), .mv (.k (.int .i64 (-1))), none, []⟩])
      (.ret i_law00_Code_r))))),
  [.tmp 2], [], false, []⟩

def i_law10_CodeReads_r : List Bool := [false, false, true, false, false, false, false, false, false, false, false, false, false, false, false, false, false, false, false, false, false, false, false, false, false, false, false, false, false, false, false, false, false, false, false]
/-- heartwood/heartwoodlaw10.CodeReads -/
def i_law10_CodeReads : Ev.Fn := ⟨1, 35, 2,
  (.seq
   (.reg [] [
     ⟨(some 2), .mv (.k (.bool false)), none, []⟩])
   (.seq
    (.reg [] [
      ⟨(some 8), .qcall n_law10_up [] [], none, []⟩,
      ⟨(some 3), .mv (.t 8), none, []⟩])
    (.seq
     (.seq
      (.reg [] [
        ⟨(some 9), .cn (.t 0), none, []⟩,
        ⟨(some 10), .len false (.t 9), none, []⟩,
        ⟨(some 11), .bin .plain .gtr (.t 10) (.k (.int .i64 5000)), none, []⟩])
      (.cond (.t 11)
       (.seq
        (.reg [] [
          ⟨(some 12), .mv (.t 3), none, []⟩,
          ⟨(some 2), .mv (.t 12), none, []⟩])
        (.ret i_law10_CodeReads_r))
       .skip))
     (.seq
      (.reg [] [
        ⟨(some 14), .cn (.t 0), none, []⟩,
        ⟨(some 15), .qcall n_code_Read [(.t 14)] [], none, []⟩,
        ⟨(some 13), .mv (.t 15), none, []⟩,
        ⟨(some 16), .ext 0 (.t 13), none, []⟩,
        ⟨(some 17), .ext 1 (.t 13), none, []⟩,
        ⟨(some 4), .new 0 [(.int .i64 0), (.slice none 0 0), (.slice none 0 0), (.slice none 0 0), (.slice none 0 0)], none, []⟩,
        ⟨none, .store 5 (.t 4) (.t 16), none, []⟩,
        ⟨(some 5), .mv (.t 17), none, []⟩])
      (.seq
       (.reg [] [
         ⟨(some 19), .cn (.t 0), none, []⟩,
         ⟨(some 20), .qcall n_ref10_Read [(.t 19)] [], none, []⟩,
         ⟨(some 18), .mv (.t 20), none, []⟩,
         ⟨(some 21), .ext 0 (.t 18), none, []⟩,
         ⟨(some 22), .ext 1 (.t 18), none, []⟩,
         ⟨(some 6), .new 1 [(.int .i64 0), (.slice none 0 0), (.slice none 0 0), (.slice none 0 0), (.slice none 0 0)], none, []⟩,
         ⟨none, .store 5 (.t 6) (.t 21), none, []⟩,
         ⟨(some 7), .mv (.t 22), none, []⟩])
       (.seq
        (.reg [] [
          ⟨(some 23), .mv (.t 3), none, []⟩,
          ⟨(some 24), .mv (.t 23), none, []⟩,
          ⟨(some 25), .mv (.t 5), (some (24, true)), []⟩,
          ⟨(some 26), .qcall n_law00_Code [(.t 25)] [], (some (24, true)), []⟩,
          ⟨(some 27), .mv (.t 7), (some (24, true)), []⟩,
          ⟨(some 28), .bin .plain .eql (.t 26) (.t 27), (some (24, true)), []⟩,
          ⟨(some 29), .pick (.t 24) (.t 28) (.k (.bool false)), none, []⟩,
          ⟨(some 30), .mv (.t 29), none, []⟩,
          ⟨(some 31), .load true 5 (.t 4), (some (30, true)), []⟩,
          ⟨(some 32), .load true 5 (.t 6), (some (30, true)), []⟩,
          ⟨(some 33), .qcall n_ref04_Same [(.t 31), (.t 32)] [], (some (30, true)), []⟩,
          ⟨(some 34), .pick (.t 30) (.t 33) (.k (.bool false)), none, []⟩,
          ⟨(some 2), .mv (.t 34), none, []⟩])
        (.ret i_law10_CodeReads_r))))))),
  [.tmp 2], [], false, []⟩

def i_ref10_Read_r : List Bool := [false, false, true, true, false, false, false, false, false, false, false, false, false, false, false, false, false, false, false]
/-- heartwood/heartwoodref10.Read -/
def i_ref10_Read : Ev.Fn := ⟨1, 19, 3,
  (.seq
   (.reg [] [
     ⟨(some 2), .new 0 [(.int .i64 0), (.slice none 0 0), (.slice none 0 0), (.slice none 0 0), (.slice none 0 0)], none, []⟩,
     ⟨(some 3), .mv (.k (.int .i64 0)), none, []⟩])
   (.seq
    (.reg [] [
      ⟨(some 7), .cn (.t 0), none, []⟩,
      ⟨(some 8), .build [(.slice none 0 0), (.int .i64 0), (.bool false)] [(0, 1, (.t 7))], none, []⟩,
      ⟨(some 9), .box 1 3 (.t 8), none, []⟩,
      ⟨(some 4), .mv (.t 9), none, []⟩])
    (.seq
     (.reg [] [
       ⟨(some 10), .mv (.t 4), none, []⟩,
       ⟨(some 11), .call n_ref10_read [(.t 10), (.k (.int .i64 64))] [], none, []⟩,
       ⟨(some 5), .new 2 [(.int .i64 0), (.slice none 0 0), (.slice none 0 0), (.slice none 0 0), (.slice none 0 0)], none, []⟩,
       ⟨none, .store 5 (.t 5) (.t 11), none, []⟩])
     (.seq
      (.reg [] [
        ⟨(some 12), .mv (.t 4), none, []⟩,
        ⟨(some 13), .call n_ref02_Reader_End [(.t 12)] [], none, []⟩,
        ⟨(some 6), .mv (.t 13), none, []⟩])
      (.seq
       (.seq
        (.reg [] [
          ⟨(some 14), .mv (.t 6), none, []⟩,
          ⟨(some 15), .bin .plain .neq (.t 14) (.k (.int .i64 0)), none, []⟩])
        (.cond (.t 15)
         (.seq
          (.reg [] [
            ⟨(some 16), .build [(.int .i64 0), (.slice none 0 0), (.slice none 0 0), (.slice none 0 0), (.slice none 0 0)] [], none, []⟩,
            ⟨(some 17), .mv (.t 6), none, []⟩,
            ⟨none, .store 5 (.t 2) (.t 16), none, []⟩,
            ⟨(some 3), .mv (.t 17), none, []⟩])
          (.ret i_ref10_Read_r))
         .skip))
       (.seq
        (.reg [] [
          ⟨(some 18), .load true 5 (.t 5), none, []⟩,
          ⟨none, .store 5 (.t 2) (.t 18), none, []⟩,
          ⟨(some 3), .mv (.k (.int .i64 0)), none, []⟩])
        (.ret i_ref10_Read_r))))))),
  [.cell 2 true 5, .tmp 3], [], false, []⟩

def i_ref10_read_r : List Bool := [false, false, false, false, true, false, false, false, false, false, false, false, false, false, false, false, false, false, false, false, false, false, false, false, false, false, false, false, false, false, false, false, false, false, false, false, false, false, false, false, false, false, false, false, false, false, false, false, false, false, false, false, false, false, false, false, false, false, false, false, false, false, false, false, false, false, false, false, false, false, false, false, false, false, false, false, false]
/-- heartwood/heartwoodref10.read -/
def i_ref10_read : Ev.Fn := ⟨2, 77, 3,
  (.seq
   (.reg [] [
     ⟨(some 4), .new 0 [(.int .i64 0), (.slice none 0 0), (.slice none 0 0), (.slice none 0 0), (.slice none 0 0)], none, []⟩])
   (.seq
    (.reg [] [
      ⟨(some 7), .mv (.t 0), none, []⟩,
      ⟨(some 8), .call n_ref02_Reader_Byte [(.t 7)] [], none, []⟩,
      ⟨(some 9), .conv .i64 (.t 8), none, []⟩,
      ⟨(some 10), .build [(.int .i64 0), (.slice none 0 0), (.slice none 0 0), (.slice none 0 0), (.slice none 0 0)] [(0, 1, (.t 9))], none, []⟩,
      ⟨(some 5), .new 1 [(.int .i64 0), (.slice none 0 0), (.slice none 0 0), (.slice none 0 0), (.slice none 0 0)], none, []⟩,
      ⟨none, .store 5 (.t 5) (.t 10), none, []⟩])
    (.seq
     (.seq
      (.reg [] [
        ⟨(some 11), .fa 0 (.t 5), none, []⟩,
        ⟨(some 12), .load false 1 (.t 11), none, []⟩,
        ⟨(some 13), .bin .plain .gtr (.t 12) (.k (.int .i64 3)), none, []⟩,
        ⟨(some 14), .mv (.t 13), none, []⟩,
        ⟨(some 15), .mv (.t 1), (some (14, false)), []⟩,
        ⟨(some 16), .bin .plain .eql (.t 15) (.k (.int .i64 0)), (some (14, false)), []⟩,
        ⟨(some 17), .mv (.t 16), (some (14, false)), []⟩,
        ⟨(some 18), .fa 0 (.t 5), (some (17, true)), []⟩,
        ⟨(some 19), .load false 1 (.t 18), (some (17, true)), []⟩,
        ⟨(some 20), .bin .plain .eql (.t 19) (.k (.int .i64 1)), (some (17, true)), []⟩,
        ⟨(some 21), .mv (.t 20), (some (17, true)), []⟩,
        ⟨(some 22), .fa 0 (.t 5), (some (21, false)), []⟩,
        ⟨(some 23), .load false 1 (.t 22), (some (21, false)), []⟩,
        ⟨(some 24), .bin .plain .eql (.t 23) (.k (.int .i64 2)), (some (21, false)), []⟩,
        ⟨(some 25), .pick (.t 21) (.k (.bool true)) (.t 24), (some (17, true)), []⟩,
        ⟨(some 26), .pick (.t 17) (.t 25) (.k (.bool false)), (some (14, false)), []⟩,
        ⟨(some 27), .pick (.t 14) (.k (.bool true)) (.t 26), none, []⟩])
      (.cond (.t 27)
       (.reg [] [
         ⟨(some 28), .mv (.t 0), none, []⟩,
         ⟨(some 29), .nilc (.t 28), none, []⟩,
         ⟨(some 30), .fa 2 (.t 29), none, []⟩,
         ⟨none, .store 1 (.t 30) (.k (.bool true)), none, []⟩])
       .skip))
     (.seq
      (.seq
       (.reg [] [
         ⟨(some 31), .mv (.t 0), none, []⟩,
         ⟨(some 32), .nilc (.t 31), none, []⟩,
         ⟨(some 33), .fa 2 (.t 32), none, []⟩,
         ⟨(some 34), .load false 1 (.t 33), none, []⟩,
         ⟨(some 35), .mv (.t 34), none, []⟩,
         ⟨(some 36), .fa 0 (.t 5), (some (35, false)), []⟩,
         ⟨(some 37), .load false 1 (.t 36), (some (35, false)), []⟩,
         ⟨(some 38), .bin .plain .eql (.t 37) (.k (.int .i64 0)), (some (35, false)), []⟩,
         ⟨(some 39), .pick (.t 35) (.k (.bool true)) (.t 38), none, []⟩])
       (.cond (.t 39)
        (.seq
         (.reg [] [
           ⟨(some 40), .load true 5 (.t 5), none, []⟩,
           ⟨none, .store 5 (.t 4) (.t 40), none, []⟩])
         (.ret i_ref10_read_r))
        .skip))
      (.seq
       (.seq
        (.reg [] [
          ⟨(some 41), .fa 0 (.t 5), none, []⟩,
          ⟨(some 42), .load false 1 (.t 41), none, []⟩,
          ⟨(some 43), .bin .plain .eql (.t 42) (.k (.int .i64 3)), none, []⟩])
        (.cond (.t 43)
         (.seq
          (.reg [] [
            ⟨(some 44), .mv (.t 0), none, []⟩,
            ⟨(some 45), .call n_ref02_Reader_Bytes [(.t 44), (.k (.int .i64 32))] [], none, []⟩,
            ⟨(some 46), .fa 3 (.t 5), none, []⟩,
            ⟨none, .store 1 (.t 46) (.t 45), none, []⟩])
          (.seq
           (.reg [] [
             ⟨(some 47), .load true 5 (.t 5), none, []⟩,
             ⟨none, .store 5 (.t 4) (.t 47), none, []⟩])
           (.ret i_ref10_read_r)))
         .skip))
       (.seq
        (.reg [] [
          ⟨(some 48), .mv (.t 0), none, []⟩,
          ⟨(some 49), .call n_ref02_Reader_Bytes [(.t 48), (.k (.int .i64 80))] [], none, []⟩,
          ⟨(some 50), .fa 1 (.t 5), none, []⟩,
          ⟨none, .store 1 (.t 50) (.t 49), none, []⟩])
        (.seq
         (.seq
          (.reg [] [
            ⟨(some 51), .fa 0 (.t 5), none, []⟩,
            ⟨(some 52), .load false 1 (.t 51), none, []⟩,
            ⟨(some 53), .bin .plain .eql (.t 52) (.k (.int .i64 1)), none, []⟩])
          (.cond (.t 53)
           (.reg [] [
             ⟨(some 54), .mv (.t 0), none, []⟩,
             ⟨(some 55), .call n_ref02_Reader_Bytes [(.t 54), (.k (.int .i64 1024))] [], none, []⟩,
             ⟨(some 56), .fa 2 (.t 5), none, []⟩,
             ⟨none, .store 1 (.t 56) (.t 55), none, []⟩])
           (.reg [] [
             ⟨(some 57), .mv (.t 0), none, []⟩,
             ⟨(some 58), .call n_ref02_Reader_Bytes [(.t 57), (.k (.int .i64 32))] [], none, []⟩,
             ⟨(some 59), .fa 3 (.t 5), none, []⟩,
             ⟨none, .store 1 (.t 59) (.t 58), none, []⟩])))
         (.seq
          (.seq
           (.reg [] [
             ⟨(some 60), .mv (.t 0), none, []⟩,
             ⟨(some 61), .nilc (.t 60), none, []⟩,
             ⟨(some 62), .fa 2 (.t 61), none, []⟩,
             ⟨(some 63), .load false 1 (.t 62), none, []⟩])
           (.cond (.t 63)
            (.seq
             (.reg [] [
               ⟨(some 64), .load true 5 (.t 5), none, []⟩,
               ⟨none, .store 5 (.t 4) (.t 64), none, []⟩])
             (.ret i_ref10_read_r))
            .skip))
          (.seq
           (.reg [] [
             ⟨(some 65), .mv (.t 0), none, []⟩,
             ⟨(some 66), .mv (.t 1), none, []⟩,
             ⟨(some 67), .bin .plain .sub (.t 66) (.k (.int .i64 1)), none, []⟩,
             ⟨(some 68), .call n_ref10_read [(.t 65), (.t 67)] [], none, []⟩,
             ⟨(some 6), .new 2 [(.int .i64 0), (.slice none 0 0), (.slice none 0 0), (.slice none 0 0), (.slice none 0 0)], none, []⟩,
             ⟨none, .store 5 (.t 6) (.t 68), none, []⟩])
           (.seq
            (.reg [(0, 4)] [
              ⟨(some 69), .load true 5 (.t 6), none, []⟩,
              ⟨(some 70), .mv (.t 0), none, []⟩,
              ⟨(some 71), .mv (.t 1), none, []⟩,
              ⟨(some 72), .bin .plain .sub (.t 71) (.k (.int .i64 1)), none, []⟩,
              ⟨(some 73), .call n_ref10_read [(.t 70), (.t 72)] [], none, []⟩,
              ⟨(some 74), .litd 5 2 [(.int .i64 0), (.slice none 0 0), (.slice none 0 0), (.slice none 0 0), (.slice none 0 0)] [(0, (.t 69)), (1, (.t 73))], none, [69]⟩,
              ⟨(some 75), .fa 4 (.t 5), none, []⟩,
              ⟨none, .store 1 (.t 75) (.t 74), none, []⟩])
            (.seq
             (.reg [] [
               ⟨(some 76), .load true 5 (.t 5), none, []⟩,
               ⟨none, .store 5 (.t 4) (.t 76), none, []⟩])
             (.ret i_ref10_read_r)))))))))))),
  [.cell 4 true 5], [], false, []⟩

def i_ref02_Reader_Byte_r : List Bool := [false, false, true, false, false, false, false, false, false, false, false, false, false, false, false, false, false, false, false, false, false, false, false, false, false, false, false, false, false, false, false, false, false, false, false, false, false, false, false, false]
/-- (*heartwood/heartwoodref02.Reader).Byte -/
def i_ref02_Reader_Byte : Ev.Fn := ⟨1, 40, 0,
  (.seq
   (.reg [] [
     ⟨(some 2), .mv (.k (.int .u8 0)), none, []⟩])
   (.seq
    (.seq
     (.reg [] [
       ⟨(some 3), .mv (.t 0), none, []⟩,
       ⟨(some 4), .nilc (.t 3), none, []⟩,
       ⟨(some 5), .fa 2 (.t 4), none, []⟩,
       ⟨(some 6), .load false 1 (.t 5), none, []⟩,
       ⟨(some 7), .mv (.t 6), none, []⟩,
       ⟨(some 8), .mv (.t 0), (some (7, false)), []⟩,
       ⟨(some 9), .nilc (.t 8), (some (7, false)), []⟩,
       ⟨(some 10), .fa 1 (.t 9), (some (7, false)), []⟩,
       ⟨(some 11), .load false 1 (.t 10), (some (7, false)), []⟩,
       ⟨(some 12), .mv (.t 0), (some (7, false)), []⟩,
       ⟨(some 13), .nilc (.t 12), (some (7, false)), []⟩,
       ⟨(some 14), .fa 0 (.t 13), (some (7, false)), []⟩,
       ⟨(some 15), .load false 1 (.t 14), (some (7, false)), []⟩,
       ⟨(some 16), .len false (.t 15), (some (7, false)), []⟩,
       ⟨(some 17), .bin .plain .geq (.t 11) (.t 16), (some (7, false)), []⟩,
       ⟨(some 18), .pick (.t 7) (.k (.bool true)) (.t 17), none, []⟩])
     (.cond (.t 18)
      (.seq
       (.reg [] [
         ⟨(some 19), .mv (.t 0), none, []⟩,
         ⟨(some 20), .nilc (.t 19), none, []⟩,
         ⟨(some 21), .fa 2 (.t 20), none, []⟩,
         ⟨none, .store 1 (.t 21) (.k (.bool true)), none, []⟩])
       (.seq
        (.reg [] [
          ⟨(some 2), .mv (.k (.int .u8 0)), none, []⟩])
        (.ret i_ref02_Reader_Byte_r)))
      .skip))
    (.seq
     (.reg [] [
       ⟨(some 22), .mv (.t 0), none, []⟩,
       ⟨(some 23), .nilc (.t 22), none, []⟩,
       ⟨(some 24), .fa 1 (.t 23), none, []⟩,
       ⟨(some 25), .load false 1 (.t 24), none, []⟩,
       ⟨(some 26), .bin .plain .add (.t 25) (.k (.int .i64 1)), none, []⟩,
       ⟨(some 27), .nilc (.t 22), none, []⟩,
       ⟨(some 28), .fa 1 (.t 27), none, []⟩,
       ⟨none, .store 1 (.t 28) (.t 26), none, []⟩])
     (.seq
      (.reg [] [
        ⟨(some 29), .mv (.t 0), none, []⟩,
        ⟨(some 30), .nilc (.t 29), none, []⟩,
        ⟨(some 31), .fa 0 (.t 30), none, []⟩,
        ⟨(some 32), .load false 1 (.t 31), none, []⟩,
        ⟨(some 33), .mv (.t 0), none, []⟩,
        ⟨(some 34), .nilc (.t 33), none, []⟩,
        ⟨(some 35), .fa 1 (.t 34), none, []⟩,
        ⟨(some 36), .load false 1 (.t 35), none, []⟩,
        ⟨(some 37), .bin .plain .sub (.t 36) (.k (.int .i64 1)), none, []⟩,
        ⟨(some 38), .ia 1 (.t 32) (.t 37), none, []⟩,
        ⟨(some 39), .load false 1 (.t 38), none, []⟩,
        ⟨(some 2), .mv (.t 39), none, []⟩])
      (.ret i_ref02_Reader_Byte_r))))),
  [.tmp 2], [], false, []⟩

def i_ref02_Reader_Bytes_r : List Bool := [false, false, false, false, true, false, false, false, false, false, false, false, false, false, false, false, false, false, false, false, false, false, false, false, false, false, false, false, false, false, false, false, false, false, false, false, false, false, false, false, false, false, false, false, false, false, false, false, false, false, false, false, false, false, false, false, false, false, false, false, false, false, false, false, false, false, false, false, false, false]
/-- (*heartwood/heartwoodref02.Reader).Bytes -/
def i_ref02_Reader_Bytes : Ev.Fn := ⟨2, 70, 1,
  (.seq
   (.reg [] [
     ⟨(some 4), .cn (.k (.slice none 0 0)), none, []⟩])
   (.seq
    (.reg [] [
      ⟨(some 7), .mv (.t 0), none, []⟩,
      ⟨(some 8), .call n_ref02_Reader_Number [(.t 7)] [], none, []⟩,
      ⟨(some 5), .mv (.t 8), none, []⟩])
    (.seq
     (.seq
      (.reg [] [
        ⟨(some 9), .mv (.t 0), none, []⟩,
        ⟨(some 10), .nilc (.t 9), none, []⟩,
        ⟨(some 11), .fa 2 (.t 10), none, []⟩,
        ⟨(some 12), .load false 1 (.t 11), none, []⟩,
        ⟨(some 13), .mv (.t 12), none, []⟩,
        ⟨(some 14), .mv (.t 1), (some (13, false)), []⟩,
        ⟨(some 15), .bin .plain .lss (.t 14) (.k (.int .i64 0)), (some (13, false)), []⟩,
        ⟨(some 16), .pick (.t 13) (.k (.bool true)) (.t 15), none, []⟩,
        ⟨(some 17), .mv (.t 16), none, []⟩,
        ⟨(some 18), .mv (.t 5), (some (17, false)), []⟩,
        ⟨(some 19), .mv (.t 1), (some (17, false)), []⟩,
        ⟨(some 20), .conv .u64 (.t 19), (some (17, false)), []⟩,
        ⟨(some 21), .bin .plain .gtr (.t 18) (.t 20), (some (17, false)), []⟩,
        ⟨(some 22), .pick (.t 17) (.k (.bool true)) (.t 21), none, []⟩,
        ⟨(some 23), .mv (.t 22), none, []⟩,
        ⟨(some 24), .mv (.t 5), (some (23, false)), []⟩,
        ⟨(some 25), .mv (.t 0), (some (23, false)), []⟩,
        ⟨(some 26), .nilc (.t 25), (some (23, false)), []⟩,
        ⟨(some 27), .fa 0 (.t 26), (some (23, false)), []⟩,
        ⟨(some 28), .load false 1 (.t 27), (some (23, false)), []⟩,
        ⟨(some 29), .len false (.t 28), (some (23, false)), []⟩,
        ⟨(some 30), .mv (.t 0), (some (23, false)), []⟩,
        ⟨(some 31), .nilc (.t 30), (some (23, false)), []⟩,
        ⟨(some 32), .fa 1 (.t 31), (some (23, false)), []⟩,
        ⟨(some 33), .load false 1 (.t 32), (some (23, false)), []⟩,
        ⟨(some 34), .bin .plain .sub (.t 29) (.t 33), (some (23, false)), []⟩,
        ⟨(some 35), .conv .u64 (.t 34), (some (23, false)), []⟩,
        ⟨(some 36), .bin .plain .gtr (.t 24) (.t 35), (some (23, false)), []⟩,
        ⟨(some 37), .pick (.t 23) (.k (.bool true)) (.t 36), none, []⟩])
      (.cond (.t 37)
       (.seq
        (.reg [] [
          ⟨(some 38), .mv (.t 0), none, []⟩,
          ⟨(some 39), .nilc (.t 38), none, []⟩,
          ⟨(some 40), .fa 2 (.t 39), none, []⟩,
          ⟨none, .store 1 (.t 40) (.k (.bool true)), none, []⟩])
        (.seq
         (.reg [] [
           ⟨(some 4), .cn (.k (.slice none 0 0)), none, []⟩])
         (.ret i_ref02_Reader_Bytes_r)))
       .skip))
     (.seq
      (.reg [(0, 4), (0, 8), (0, 12), (0, 16)] [
        ⟨(some 41), .lit 0 ty_uint8 1 0 [(.int .u8 0)] [], none, []⟩,
        ⟨(some 42), .mv (.t 0), none, []⟩,
        ⟨(some 43), .nilc (.t 42), none, []⟩,
        ⟨(some 44), .fa 0 (.t 43), none, []⟩,
        ⟨(some 45), .load false 1 (.t 44), none, []⟩,
        ⟨(some 46), .mv (.t 0), none, []⟩,
        ⟨(some 47), .nilc (.t 46), none, []⟩,
        ⟨(some 48), .fa 1 (.t 47), none, []⟩,
        ⟨(some 49), .load false 1 (.t 48), none, []⟩,
        ⟨(some 50), .mv (.t 0), none, []⟩,
        ⟨(some 51), .nilc (.t 50), none, []⟩,
        ⟨(some 52), .fa 1 (.t 51), none, []⟩,
        ⟨(some 53), .load false 1 (.t 52), none, []⟩,
        ⟨(some 54), .mv (.t 5), none, []⟩,
        ⟨(some 55), .conv .i64 (.t 54), none, []⟩,
        ⟨(some 56), .bin .plain .add (.t 53) (.t 55), none, []⟩,
        ⟨(some 57), .slice 1 (.t 45) (some (.t 49)) (some (.t 56)) none, none, [45]⟩,
        ⟨(some 58), .app 0 ty_uint8 1 1 (.t 41) (.t 57), none, []⟩,
        ⟨(some 6), .cn (.t 58), none, [58]⟩])
      (.seq
       (.reg [] [
         ⟨(some 59), .mv (.t 0), none, []⟩,
         ⟨(some 60), .mv (.t 0), none, []⟩,
         ⟨(some 61), .nilc (.t 60), none, []⟩,
         ⟨(some 62), .fa 1 (.t 61), none, []⟩,
         ⟨(some 63), .load false 1 (.t 62), none, []⟩,
         ⟨(some 64), .mv (.t 5), none, []⟩,
         ⟨(some 65), .conv .i64 (.t 64), none, []⟩,
         ⟨(some 66), .bin .plain .add (.t 63) (.t 65), none, []⟩,
         ⟨(some 67), .nilc (.t 59), none, []⟩,
         ⟨(some 68), .fa 1 (.t 67), none, []⟩,
         ⟨none, .store 1 (.t 68) (.t 66), none, []⟩])
       (.seq
        (.reg [] [
          ⟨(some 69), .cn (.t 6), none, []⟩,
          ⟨(some 4), .cn (.t 69), none, []⟩])
        (.ret i_ref02_Reader_Bytes_r))))))),
  [.tmp 4], [], false, []⟩

end Go.Proofs.Ytebiajdkgpcidaa
