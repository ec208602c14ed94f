/- The IR of the seat's functions, printed by a program of this session. -/
import Derived.Test.YtebiajdkgpcidaaDoorEvE
set_option linter.unusedVariables false
namespace Go.Proofs.YtebiajdkgpcidaaDoor
open Go.Ev

abbrev ty_uint8 : Nat := 5
abbrev ty_string : Nat := 9
abbrev ty_api_Tree : Nat := 25
abbrev ty_api_Code : Nat := 32
abbrev ty_uint32 : Nat := 38
abbrev ty_uint64 : Nat := 77
abbrev n_law04_TreeDigests : Nat := 3
abbrev n_law04_TreeHides : Nat := 4
abbrev n_law04_TreeLists : Nat := 5
abbrev n_law04_up : Nat := 12
abbrev n_law04_small : Nat := 13
abbrev n_tree_Digest : Nat := 14
abbrev n_ref04_Check : Nat := 15
abbrev n_law00_Code : Nat := 16
abbrev n_ref04_Digest : Nat := 17
abbrev n_ref01_Made : Nat := 18
abbrev n_law04_cut : Nat := 19
abbrev n_tree_List : Nat := 20
abbrev n_ref04_List : Nat := 21
abbrev n_ref04_Same : Nat := 22
abbrev n_tree_Check : Nat := 24
abbrev n_tree_Full : Nat := 38
abbrev n_ref04_Light : Nat := 39
abbrev n_tree_told : Nat := 40
abbrev n_ref04_Deep : Nat := 41
abbrev n_ref04_Formed : Nat := 42
abbrev n_ref03_Of : Nat := 43
abbrev n_ref03_Value : Nat := 44
abbrev n_ref03_Pair : Nat := 45
abbrev n_ref03_Node : Nat := 46
abbrev n_ref01_root : Nat := 47
abbrev n_ref01_Tables_Sum : Nat := 48
abbrev n_tree_List_1 : Nat := 49
abbrev n_tree_deep : Nat := 50
abbrev n_tree_formed : Nat := 51
abbrev n_tree_full : Nat := 59
abbrev n_digest_Of : Nat := 60
abbrev n_digest_None : Nat := 61
abbrev n_slices_Clone_sl_byte_byte : Nat := 62
abbrev n_digest_Value : Nat := 63
abbrev n_digest_Pair : Nat := 64
abbrev n_tree_of : Nat := 65
abbrev n_digest_Node : Nat := 66
abbrev n_ref02_Bytes : Nat := 67
abbrev n_ref01_below : Nat := 68
abbrev n_ref01_Tail : Nat := 69
abbrev n_ref01_Tables_Step : Nat := 70
abbrev n_slices_ContainsFunc_sl_api_Tree_api_Tree : Nat := 71
abbrev n_tree_deep_1 : Nat := 72
abbrev n_tree_formed_1 : Nat := 73
abbrev n_tree_full_1 : Nat := 76
abbrev n_digest_width : Nat := 77
abbrev n_sha_Sum : Nat := 78
abbrev n_slices_Concat_sl_byte_byte : Nat := 79
abbrev n_coder_Bytes : Nat := 80
abbrev n_ref02_Number : Nat := 81
abbrev n_ref01_times : Nat := 82
abbrev n_ref01_Words : Nat := 83
abbrev n_ref01_Round : Nat := 84
abbrev n_slices_IndexFunc_sl_api_Tree_api_Tree : Nat := 85
abbrev n_sha_Tail : Nat := 89
abbrev n_sha_Step : Nat := 90
abbrev n_slices_Grow_sl_byte_byte : Nat := 91
abbrev n_coder_Number : Nat := 92
abbrev n_ref01_turn : Nat := 93
abbrev n_sha_Words : Nat := 95
abbrev n_sha_Round : Nat := 96
abbrev n_math_bits_RotateLeft32 : Nat := 97
def i_law04_TreeDigests_r : List Bool := [false, false, false, false, true, false, false, false, false, false, false, false, false, false, false, false, false, false, false, false, false, false, false, false, false, false, false, false, false, false, false, false, false, false, false, false, false, false, false, false, false, false, false, false, false, false, false, false, false, false, false, false, false, false, false, false, false, false, false, false, false, false, false, false, false, false, false, false, false, false, false, false, false, false, false, false, false, false, false, false, false, false, false, false, false, false, false, false, false]
/-- heartwood/heartwoodlaw04.TreeDigests -/
def i_law04_TreeDigests : Ev.Fn := ⟨2, 89, 1,
  (.seq
   (.reg [] [
     ⟨(some 3), .box 0 5 (.t 1), none, []⟩,
     ⟨(some 4), .mv (.k (.bool false)), none, []⟩])
   (.seq
    (.reg [] [
      ⟨(some 12), .qcall n_law04_up [] [], none, []⟩,
      ⟨(some 5), .mv (.t 12), none, []⟩])
    (.seq
     (.reg [] [
       ⟨(some 13), .load true 5 (.t 3), none, []⟩,
       ⟨(some 14), .qcall n_law04_small [(.t 13)] [], none, []⟩,
       ⟨(some 6), .mv (.t 14), none, []⟩])
     (.seq
      (.seq
       (.reg [] [
         ⟨(some 15), .mv (.t 6), none, []⟩,
         ⟨(some 16), .un .not (.t 15), none, []⟩])
       (.cond (.t 16)
        (.seq
         (.reg [] [
           ⟨(some 17), .mv (.t 5), none, []⟩,
           ⟨(some 4), .mv (.t 17), none, []⟩])
         (.ret i_law04_TreeDigests_r))
        .skip))
      (.seq
       (.reg [] [
         ⟨(some 19), .mv (.t 0), none, []⟩,
         ⟨(some 20), .load true 5 (.t 3), none, []⟩,
         ⟨(some 21), .qcall n_tree_Digest [(.t 19), (.t 20)] [], none, []⟩,
         ⟨(some 18), .mv (.t 21), none, []⟩,
         ⟨(some 22), .ext 0 (.t 18), none, []⟩,
         ⟨(some 23), .ext 1 (.t 18), none, []⟩,
         ⟨(some 7), .cn (.t 22), none, []⟩,
         ⟨(some 8), .mv (.t 23), none, []⟩])
       (.seq
        (.seq
         (.reg [] [
           ⟨(some 24), .mv (.t 0), none, []⟩,
           ⟨(some 25), .bin .plain .lss (.t 24) (.k (.int .i64 1)), none, []⟩,
           ⟨(some 26), .mv (.t 25), none, []⟩,
           ⟨(some 27), .mv (.t 0), (some (26, false)), []⟩,
           ⟨(some 28), .bin .plain .gtr (.t 27) (.k (.int .i64 32)), (some (26, false)), []⟩,
           ⟨(some 29), .pick (.t 26) (.k (.bool true)) (.t 28), none, []⟩])
         (.cond (.t 29)
          (.seq
           (.reg [] [
             ⟨(some 30), .mv (.t 5), none, []⟩,
             ⟨(some 31), .mv (.t 30), none, []⟩,
             ⟨(some 32), .mv (.t 8), (some (31, true)), []⟩,
             ⟨(some 33), .mki ty_api_Code (.k (.int .i64 1)), (some (31, true)), []⟩,
             ⟨(some 34), .bin (.iface ty_api_Code false) .eql (.t 32) (.t 33), (some (31, true)), []⟩,
             ⟨(some 35), .pick (.t 31) (.t 34) (.k (.bool false)), none, []⟩,
             ⟨(some 36), .mv (.t 35), none, []⟩,
             ⟨(some 37), .cn (.t 7), (some (36, true)), []⟩,
             ⟨(some 38), .len false (.t 37), (some (36, true)), []⟩,
             ⟨(some 39), .bin .plain .eql (.t 38) (.k (.int .i64 0)), (some (36, true)), []⟩,
             ⟨(some 40), .pick (.t 36) (.t 39) (.k (.bool false)), none, []⟩,
             ⟨(some 4), .mv (.t 40), none, []⟩])
           (.ret i_law04_TreeDigests_r))
          .skip))
        (.seq
         (.reg [] [
           ⟨(some 41), .load true 5 (.t 3), none, []⟩,
           ⟨(some 42), .qcall n_ref04_Check [(.t 41)] [], none, []⟩,
           ⟨(some 9), .mv (.t 42), none, []⟩])
         (.seq
          (.seq
           (.reg [] [
             ⟨(some 43), .mv (.t 9), none, []⟩,
             ⟨(some 44), .bin .plain .neq (.t 43) (.k (.int .i64 0)), none, []⟩])
           (.cond (.t 44)
            (.seq
             (.reg [] [
               ⟨(some 45), .mv (.t 5), none, []⟩,
               ⟨(some 46), .mv (.t 45), none, []⟩,
               ⟨(some 47), .mv (.t 8), (some (46, true)), []⟩,
               ⟨(some 48), .qcall n_law00_Code [(.t 47)] [], (some (46, true)), []⟩,
               ⟨(some 49), .mv (.t 9), (some (46, true)), []⟩,
               ⟨(some 50), .bin .plain .eql (.t 48) (.t 49), (some (46, true)), []⟩,
               ⟨(some 51), .pick (.t 46) (.t 50) (.k (.bool false)), none, []⟩,
               ⟨(some 52), .mv (.t 51), none, []⟩,
               ⟨(some 53), .cn (.t 7), (some (52, true)), []⟩,
               ⟨(some 54), .len false (.t 53), (some (52, true)), []⟩,
               ⟨(some 55), .bin .plain .eql (.t 54) (.k (.int .i64 0)), (some (52, true)), []⟩,
               ⟨(some 56), .pick (.t 52) (.t 55) (.k (.bool false)), none, []⟩,
               ⟨(some 4), .mv (.t 56), none, []⟩])
             (.ret i_law04_TreeDigests_r))
            .skip))
          (.seq
           (.reg [] [
             ⟨(some 58), .qcall n_ref01_Made [] [], none, []⟩,
             ⟨(some 59), .mv (.t 0), none, []⟩,
             ⟨(some 60), .load true 5 (.t 3), none, []⟩,
             ⟨(some 61), .qcall n_ref04_Digest [(.t 58), (.t 59), (.t 60)] [], none, []⟩,
             ⟨(some 57), .mv (.t 61), none, []⟩,
             ⟨(some 62), .ext 0 (.t 57), none, []⟩,
             ⟨(some 63), .ext 1 (.t 57), none, []⟩,
             ⟨(some 10), .cn (.t 62), none, []⟩,
             ⟨(some 11), .mv (.t 63), none, []⟩])
           (.seq
            (.seq
             (.reg [] [
               ⟨(some 64), .mv (.t 11), none, []⟩,
               ⟨(some 65), .un .not (.t 64), none, []⟩])
             (.cond (.t 65)
              (.seq
               (.reg [] [
                 ⟨(some 66), .mv (.t 5), none, []⟩,
                 ⟨(some 67), .mv (.t 66), none, []⟩,
                 ⟨(some 68), .mv (.t 8), (some (67, true)), []⟩,
                 ⟨(some 69), .mki ty_api_Code (.k (.int .i64 3)), (some (67, true)), []⟩,
                 ⟨(some 70), .bin (.iface ty_api_Code false) .eql (.t 68) (.t 69), (some (67, true)), []⟩,
                 ⟨(some 71), .pick (.t 67) (.t 70) (.k (.bool false)), none, []⟩,
                 ⟨(some 72), .mv (.t 71), none, []⟩,
                 ⟨(some 73), .cn (.t 7), (some (72, true)), []⟩,
                 ⟨(some 74), .len false (.t 73), (some (72, true)), []⟩,
                 ⟨(some 75), .bin .plain .eql (.t 74) (.k (.int .i64 0)), (some (72, true)), []⟩,
                 ⟨(some 76), .pick (.t 72) (.t 75) (.k (.bool false)), none, []⟩,
                 ⟨(some 4), .mv (.t 76), none, []⟩])
               (.ret i_law04_TreeDigests_r))
              .skip))
            (.seq
             (.reg [] [
               ⟨(some 77), .mv (.t 5), none, []⟩,
               ⟨(some 78), .mv (.t 77), none, []⟩,
               ⟨(some 79), .mv (.t 8), (some (78, true)), []⟩,
               ⟨(some 80), .bin (.iface ty_api_Code true) .eql (.t 79) (.k .nilIface), (some (78, true)), []⟩,
               ⟨(some 81), .pick (.t 78) (.t 80) (.k (.bool false)), none, []⟩,
               ⟨(some 82), .mv (.t 81), none, []⟩,
               ⟨(some 83), .cn (.t 7), (some (82, true)), []⟩,
               ⟨(some 84), .b2s (.t 83), (some (82, true)), []⟩,
               ⟨(some 85), .cn (.t 10), (some (82, true)), []⟩,
               ⟨(some 86), .b2s (.t 85), (some (82, true)), []⟩,
               ⟨(some 87), .bin .plain .eql (.t 84) (.t 86), (some (82, true)), []⟩,
               ⟨(some 88), .pick (.t 82) (.t 87) (.k (.bool false)), none, []⟩,
               ⟨(some 4), .mv (.t 88), none, []⟩])
             (.ret i_law04_TreeDigests_r)))))))))))),
  [.tmp 4], [], false, []⟩

def i_law04_up_r : List Bool := [true, false, false, false, false, false, false, false, false, false, false, false, false, false, false, false, false, false, false, false, false, false, false, false, false, false, false, false]
/-- heartwood/heartwoodlaw04.up -/
def i_law04_up : Ev.Fn := ⟨0, 28, 1,
  (.seq
   (.reg [] [
     ⟨(some 0), .mv (.k (.bool false)), none, []⟩])
   (.seq
    (.reg [] [
      ⟨(some 5), .build [(.int .i64 0), (.slice none 0 0), (.slice none 0 0), (.slice none 0 0), (.slice none 0 0)] [], none, []⟩,
      ⟨(some 6), .qcall n_tree_Digest [(.k (.int .i64 1)), (.t 5)] [], none, []⟩,
      ⟨(some 4), .mv (.t 6), none, []⟩,
      ⟨(some 7), .ext 0 (.t 4), none, []⟩,
      ⟨(some 8), .ext 1 (.t 4), none, []⟩,
      ⟨(some 1), .cn (.t 7), none, []⟩,
      ⟨(some 2), .mv (.t 8), none, []⟩])
    (.seq
     (.reg [] [
       ⟨(some 9), .make 0 ty_api_Tree 5 104 [(.int .i64 0), (.slice none 0 0), (.slice none 0 0), (.slice none 0 0), (.slice none 0 0)] (.k (.int .i64 1)) (.k (.int .i64 1)), none, []⟩,
       ⟨(some 10), .build [(.int .i64 0), (.slice none 0 0), (.slice none 0 0), (.slice none 0 0), (.slice none 0 0)] [(0, 1, (.k (.int .i64 1))), (4, 1, (.t 9))], none, [9]⟩,
       ⟨(some 11), .qcall n_tree_Check [(.t 10)] [], none, []⟩,
       ⟨(some 3), .mv (.t 11), none, []⟩])
     (.seq
      (.reg [] [
        ⟨(some 12), .mv (.t 2), none, []⟩,
        ⟨(some 13), .bin (.iface ty_api_Code true) .eql (.t 12) (.k .nilIface), none, []⟩,
        ⟨(some 14), .mv (.t 13), none, []⟩,
        ⟨(some 15), .cn (.t 1), (some (14, true)), []⟩,
        ⟨(some 16), .b2s (.t 15), (some (14, true)), []⟩,
        ⟨(some 17), .bin .plain .eql (.t 16) (.k (.string ⟨#[8]⟩)), (some (14, true)), []⟩,
        ⟨(some 18), .pick (.t 14) (.t 17) (.k (.bool false)), none, []⟩,
        ⟨(some 19), .mv (.t 18), none, []⟩,
        ⟨(some 20), .mv (.t 3), (some (19, true)), []⟩,
        ⟨(some 21), .mki ty_api_Code (.k (.int .i64 3)), (some (19, true)), []⟩,
        ⟨(some 22), .bin (.iface ty_api_Code false) .eql (.t 20) (.t 21), (some (19, true)), []⟩,
        ⟨(some 23), .pick (.t 19) (.t 22) (.k (.bool false)), none, []⟩,
        ⟨(some 24), .mv (.t 23), none, []⟩,
        ⟨(some 25), .build [(.int .i64 0), (.slice none 0 0), (.slice none 0 0), (.slice none 0 0), (.slice none 0 0)] [], (some (24, true)), []⟩,
        ⟨(some 26), .qcall n_tree_Full [(.t 25)] [], (some (24, true)), []⟩,
        ⟨(some 27), .pick (.t 24) (.t 26) (.k (.bool false)), none, []⟩,
        ⟨(some 0), .mv (.t 27), none, []⟩])
      (.ret i_law04_up_r))))),
  [.tmp 0], [], false, []⟩

def i_tree_Digest_r : List Bool := [false, false, false, false, true, true, false, false, false, false, false, false, false, false, false, false, false, false, false, false, false, false, false, false]
/-- heartwood/tree.Digest -/
def i_tree_Digest : Ev.Fn := ⟨2, 24, 1,
  (.seq
   (.reg [] [
     ⟨(some 3), .box 0 5 (.t 1), none, []⟩,
     ⟨(some 4), .cn (.k (.slice none 0 0)), none, []⟩,
     ⟨(some 5), .mv (.k .nilIface), none, []⟩])
   (.seq
    (.seq
     (.reg [] [
       ⟨(some 7), .mv (.t 0), none, []⟩,
       ⟨(some 8), .bin .plain .lss (.t 7) (.k (.int .i64 1)), none, []⟩,
       ⟨(some 9), .mv (.t 8), none, []⟩,
       ⟨(some 10), .mv (.t 0), (some (9, false)), []⟩,
       ⟨(some 11), .bin .plain .gtr (.t 10) (.k (.int .i64 32)), (some (9, false)), []⟩,
       ⟨(some 12), .pick (.t 9) (.k (.bool true)) (.t 11), none, []⟩])
     (.cond (.t 12)
      (.seq
       (.reg [] [
         ⟨(some 13), .mki ty_api_Code (.k (.int .i64 1)), none, []⟩,
         ⟨(some 4), .cn (.k (.slice none 0 0)), none, []⟩,
         ⟨(some 5), .mv (.t 13), none, []⟩])
       (.ret i_tree_Digest_r))
      .skip))
    (.seq
     (.seq
      (.reg [] [
        ⟨(some 14), .load true 5 (.t 3), none, []⟩,
        ⟨(some 15), .qcall n_tree_Check [(.t 14)] [], none, []⟩,
        ⟨(some 6), .mv (.t 15), none, []⟩])
      (.seq
       (.reg [] [
         ⟨(some 16), .mv (.t 6), none, []⟩,
         ⟨(some 17), .bin (.iface ty_api_Code true) .neq (.t 16) (.k .nilIface), none, []⟩])
       (.cond (.t 17)
        (.seq
         (.reg [] [
           ⟨(some 18), .mv (.t 6), none, []⟩,
           ⟨(some 4), .cn (.k (.slice none 0 0)), none, []⟩,
           ⟨(some 5), .mv (.t 18), none, []⟩])
         (.ret i_tree_Digest_r))
        .skip)))
     (.seq
      (.reg [] [
        ⟨(some 19), .mv (.t 0), none, []⟩,
        ⟨(some 20), .load true 5 (.t 3), none, []⟩,
        ⟨(some 21), .qcall n_tree_told [(.t 19), (.t 20)] [], none, []⟩,
        ⟨(some 22), .ext 0 (.t 21), none, []⟩,
        ⟨(some 23), .ext 1 (.t 21), none, []⟩,
        ⟨(some 4), .cn (.t 22), none, []⟩,
        ⟨(some 5), .mv (.t 23), none, []⟩])
      (.ret i_tree_Digest_r))))),
  [.tmp 4, .tmp 5], [], false, []⟩

def i_tree_Check_r : List Bool := [false, false, true, false, false, false, false, false, false, false, false, false]
def i_tree_Check_j0 : List Bool := [false, false, false, false, false, false, false, false, false, false, false, false]
/-- heartwood/tree.Check -/
def i_tree_Check : Ev.Fn := ⟨1, 12, 1,
  (.seq
   (.reg [] [
     ⟨(some 1), .box 0 5 (.t 0), none, []⟩,
     ⟨(some 2), .mv (.k .nilIface), none, []⟩])
   (.seq
    (.block 0 i_tree_Check_j0
     (.seq
      (.reg [] [
        ⟨(some 4), .load true 5 (.t 1), none, []⟩,
        ⟨(some 5), .qcall n_tree_deep [(.t 4), (.k (.int .i64 64))] [], none, []⟩,
        ⟨(some 3), .mv (.t 5), none, []⟩])
      (.cond (.t 3)
       (.seq
        (.reg [] [
          ⟨(some 6), .mki ty_api_Code (.k (.int .i64 5)), none, []⟩,
          ⟨(some 2), .mv (.t 6), none, []⟩])
        (.ret i_tree_Check_r))
       (.seq
        (.reg [] [
          ⟨(some 8), .load true 5 (.t 1), none, []⟩,
          ⟨(some 9), .qcall n_tree_formed [(.t 8)] [], none, []⟩,
          ⟨(some 10), .un .not (.t 9), none, []⟩,
          ⟨(some 7), .mv (.t 10), none, []⟩])
        (.cond (.t 7)
         (.seq
          (.reg [] [
            ⟨(some 11), .mki ty_api_Code (.k (.int .i64 3)), none, []⟩,
            ⟨(some 2), .mv (.t 11), none, []⟩])
          (.ret i_tree_Check_r))
         .skip)))))
    (.seq
     (.reg [] [
       ⟨(some 2), .mv (.k .nilIface), none, []⟩])
     (.ret i_tree_Check_r)))),
  [.tmp 2], [], false, []⟩

def i_tree_deep_r : List Bool := [false, false, false, false, true, false, false, false, false, false, false, false, false, false, false, false, false, false, false, false, false, false, false, false, false, false, false, false, false]
/-- heartwood/tree.deep -/
def i_tree_deep : Ev.Fn := ⟨2, 29, 2,
  (.seq
   (.reg [] [
     ⟨(some 2), .box 0 5 (.t 0), none, []⟩,
     ⟨(some 3), .box 1 1 (.t 1), none, []⟩,
     ⟨(some 4), .mv (.k (.bool false)), none, []⟩])
   (.seq
    (.reg [] [
      ⟨(some 6), .fa 0 (.t 2), none, []⟩,
      ⟨(some 7), .load false 1 (.t 6), none, []⟩,
      ⟨(some 8), .bin .plain .eql (.t 7) (.k (.int .i64 1)), none, []⟩,
      ⟨(some 9), .mv (.t 8), none, []⟩,
      ⟨(some 10), .fa 0 (.t 2), (some (9, false)), []⟩,
      ⟨(some 11), .load false 1 (.t 10), (some (9, false)), []⟩,
      ⟨(some 12), .bin .plain .eql (.t 11) (.k (.int .i64 2)), (some (9, false)), []⟩,
      ⟨(some 13), .pick (.t 9) (.k (.bool true)) (.t 12), none, []⟩,
      ⟨(some 14), .mv (.t 13), none, []⟩,
      ⟨(some 15), .fa 4 (.t 2), (some (14, false)), []⟩,
      ⟨(some 16), .load false 1 (.t 15), (some (14, false)), []⟩,
      ⟨(some 17), .len false (.t 16), (some (14, false)), []⟩,
      ⟨(some 18), .bin .plain .gtr (.t 17) (.k (.int .i64 0)), (some (14, false)), []⟩,
      ⟨(some 19), .pick (.t 14) (.k (.bool true)) (.t 18), none, []⟩,
      ⟨(some 5), .mv (.t 19), none, []⟩])
    (.seq
     (.seq
      (.reg [] [
        ⟨(some 20), .mv (.t 5), none, []⟩,
        ⟨(some 21), .mv (.t 20), none, []⟩,
        ⟨(some 22), .load false 1 (.t 3), (some (21, true)), []⟩,
        ⟨(some 23), .bin .plain .lss (.t 22) (.k (.int .i64 1)), (some (21, true)), []⟩,
        ⟨(some 24), .pick (.t 21) (.t 23) (.k (.bool false)), none, []⟩])
      (.cond (.t 24)
       (.seq
        (.reg [] [
          ⟨(some 4), .mv (.k (.bool true)), none, []⟩])
        (.ret i_tree_deep_r))
       .skip))
     (.seq
      (.reg [] [
        ⟨(some 25), .fa 4 (.t 2), none, []⟩,
        ⟨(some 26), .load false 1 (.t 25), none, []⟩,
        ⟨(some 27), .mkf n_tree_deep_1 [(.t 3)], none, []⟩,
        ⟨(some 28), .call n_slices_ContainsFunc_sl_api_Tree_api_Tree [(.t 26), (.t 27)] [], none, []⟩,
        ⟨(some 4), .mv (.t 28), none, []⟩])
      (.ret i_tree_deep_r))))),
  [.tmp 4], [], false, []⟩

def i_tree_deep_1_r : List Bool := [false, false, false, true, false, false, false, false]
/-- heartwood/tree.deep$1 -/
def i_tree_deep_1 : Ev.Fn := ⟨2, 8, 1,
  (.seq
   (.reg [] [
     ⟨(some 2), .box 0 5 (.t 0), none, []⟩,
     ⟨(some 3), .mv (.k (.bool false)), none, []⟩])
   (.seq
    (.reg [] [
      ⟨(some 4), .load true 5 (.t 2), none, []⟩,
      ⟨(some 5), .load false 1 (.t 1), none, []⟩,
      ⟨(some 6), .bin .plain .sub (.t 5) (.k (.int .i64 1)), none, []⟩,
      ⟨(some 7), .qcall n_tree_deep [(.t 4), (.t 6)] [], none, [4]⟩,
      ⟨(some 3), .mv (.t 7), none, []⟩])
    (.ret i_tree_deep_1_r))),
  [.tmp 3], [], false, []⟩

def i_slices_ContainsFunc_sl_api_Tree_api_Tree_r : List Bool := [false, false, false, false, true, false, false, false, false]
/-- slices.ContainsFunc[[]heartwood/api.Tree,heartwood/api.Tree] -/
def i_slices_ContainsFunc_sl_api_Tree_api_Tree : Ev.Fn := ⟨2, 9, 0,
  (.seq
   (.reg [] [
     ⟨(some 4), .mv (.k (.bool false)), none, []⟩])
   (.seq
    (.reg [] [
      ⟨(some 5), .cn (.t 0), none, []⟩,
      ⟨(some 6), .mv (.t 1), none, []⟩,
      ⟨(some 7), .call n_slices_IndexFunc_sl_api_Tree_api_Tree [(.t 5), (.t 6)] [], none, []⟩,
      ⟨(some 8), .bin .plain .geq (.t 7) (.k (.int .i64 0)), none, []⟩,
      ⟨(some 4), .mv (.t 8), none, []⟩])
    (.ret i_slices_ContainsFunc_sl_api_Tree_api_Tree_r))),
  [.tmp 4], [], false, []⟩

def i_slices_IndexFunc_sl_api_Tree_api_Tree_r : List Bool := [false, false, false, false, true, false, false, false, false, false, false, false, false, false, false, false, false, false, false]
def i_slices_IndexFunc_sl_api_Tree_api_Tree_j1 : List Bool := [true, true, false, false, false, false, false, true, true, false, false, false, false, false, false, false, false, false, false]
def i_slices_IndexFunc_sl_api_Tree_api_Tree_k0 : List Bool := [true, true, false, false, false, false, false, true, true, false, false, false, false, false, false, false, false, false, false]
def i_slices_IndexFunc_sl_api_Tree_api_Tree_j0 : List Bool := [false, false, false, false, false, false, false, false, false, false, false, false, false, false, false, false, false, false, false]
abbrev s_slices_IndexFunc_sl_api_Tree_api_Tree_R (t4 : AV) (h : Heap) : St := ⟨[.undef, .undef, .undef, .undef, t4, .undef, .undef, .undef, .undef, .undef, .undef, .undef, .undef, .undef, .undef, .undef, .undef, .undef, .undef], h⟩
abbrev s_slices_IndexFunc_sl_api_Tree_api_Tree_K0 (t0 t1 t7 t8 : AV) (h : Heap) : St := ⟨[t0, t1, .undef, .undef, .undef, .undef, .undef, t7, t8, .undef, .undef, .undef, .undef, .undef, .undef, .undef, .undef, .undef, .undef], h⟩
def i_slices_IndexFunc_sl_api_Tree_api_Tree_b0 : IR :=
  (.seq
   (.reg [] [
     ⟨(some 9), .bin .plain .lss (.t 8) (.t 7), none, []⟩])
   (.seq
    (.cond (.t 9)
     .skip
     (.exit 0 i_slices_IndexFunc_sl_api_Tree_api_Tree_j0))
    (.seq
     (.block 1 i_slices_IndexFunc_sl_api_Tree_api_Tree_j1
      (.seq
       (.reg [] [
         ⟨(some 10), .mv (.t 8), none, []⟩,
         ⟨(some 5), .mv (.t 10), none, []⟩])
       (.seq
        (.reg [] [
          ⟨(some 11), .mv (.t 1), none, []⟩,
          ⟨(some 12), .cn (.t 0), none, []⟩,
          ⟨(some 13), .mv (.t 5), none, []⟩,
          ⟨(some 14), .ia 5 (.t 12) (.t 13), none, []⟩,
          ⟨(some 15), .load true 5 (.t 14), none, []⟩,
          ⟨(some 16), .callv (.t 11) [(.t 15)] [], none, [15]⟩])
        (.cond (.t 16)
         (.seq
          (.reg [] [
            ⟨(some 17), .mv (.t 5), none, []⟩,
            ⟨(some 4), .mv (.t 17), none, []⟩])
          (.ret i_slices_IndexFunc_sl_api_Tree_api_Tree_r))
         .skip))))
     (.reg [] [
       ⟨(some 18), .bin .plain .add (.t 8) (.k (.int .i64 1)), none, []⟩,
       ⟨(some 8), .mv (.t 18), none, []⟩]))))

abbrev s_slices_IndexFunc_sl_api_Tree_api_Tree_J0 (h : Heap) : St := ⟨[.undef, .undef, .undef, .undef, .undef, .undef, .undef, .undef, .undef, .undef, .undef, .undef, .undef, .undef, .undef, .undef, .undef, .undef, .undef], h⟩
/-- slices.IndexFunc[[]heartwood/api.Tree,heartwood/api.Tree] -/
def i_slices_IndexFunc_sl_api_Tree_api_Tree : Ev.Fn := ⟨2, 19, 0,
  (.seq
   (.reg [] [
     ⟨(some 4), .mv (.k (.int .i64 0)), none, []⟩])
   (.seq
    (.seq
     (.reg [] [
       ⟨(some 6), .cn (.t 0), none, []⟩,
       ⟨(some 7), .len false (.t 6), none, []⟩,
       ⟨(some 8), .mv (.k (.int .i64 0)), none, []⟩])
     (.block 0 i_slices_IndexFunc_sl_api_Tree_api_Tree_j0
      (.loop i_slices_IndexFunc_sl_api_Tree_api_Tree_k0 i_slices_IndexFunc_sl_api_Tree_api_Tree_b0)))
    (.seq
     (.reg [] [
       ⟨(some 4), .mv (.k (.int .i64 (-1))), none, []⟩])
     (.ret i_slices_IndexFunc_sl_api_Tree_api_Tree_r)))),
  [.tmp 4], [], false, []⟩

def i_tree_formed_r : List Bool := [false, false, true, false, false, false, false, false, false, false, false, false, false, false, false, false, false, false, false, false, false, false, false, false, false, false, false, false, false, false, false, false, false, false, false, false, false, false, false, false, false, false, false, false, false, false, false, false, false, false, false, false, false, false, false, false, false, false, false, false, false, false, false, false, false, false, false, false, false, false, false, false, false, false, false, false, false, false, false, false, false, false, false, false, false, false, false]
def i_tree_formed_j0 : List Bool := [false, true, false, true, false, false, false, false, false, false, false, false, false, false, false, false, false, false, false, false, false, false, false, false, false, false, false, false, false, false, false, false, false, false, false, false, false, false, false, false, false, false, false, false, false, false, false, false, false, false, false, false, false, false, false, false, false, false, false, false, false, false, false, false, false, false, false, false, false, false, false, false, false, false, false, false, false, false, false, false, false, false, false, false, false, false, false]
/-- heartwood/tree.formed -/
def i_tree_formed : Ev.Fn := ⟨1, 87, 1,
  (.seq
   (.reg [] [
     ⟨(some 1), .box 0 5 (.t 0), none, []⟩,
     ⟨(some 2), .mv (.k (.bool false)), none, []⟩])
   (.seq
    (.reg [] [
      ⟨(some 3), .mv (.k (.bool false)), none, []⟩])
    (.seq
     (.seq
      (.reg [] [
        ⟨(some 4), .fa 0 (.t 1), none, []⟩,
        ⟨(some 5), .load false 1 (.t 4), none, []⟩])
      (.block 0 i_tree_formed_j0
       (.seq
        (.reg [] [
          ⟨(some 7), .bin .plain .eql (.t 5) (.k (.int .i64 0)), none, []⟩,
          ⟨(some 6), .mv (.t 7), none, []⟩])
        (.cond (.t 6)
         (.reg [] [
           ⟨(some 8), .fa 1 (.t 1), none, []⟩,
           ⟨(some 9), .load false 1 (.t 8), none, []⟩,
           ⟨(some 10), .len false (.t 9), none, []⟩,
           ⟨(some 11), .fa 2 (.t 1), none, []⟩,
           ⟨(some 12), .load false 1 (.t 11), none, []⟩,
           ⟨(some 13), .len false (.t 12), none, []⟩,
           ⟨(some 14), .bin .plain .add (.t 10) (.t 13), none, []⟩,
           ⟨(some 15), .fa 3 (.t 1), none, []⟩,
           ⟨(some 16), .load false 1 (.t 15), none, []⟩,
           ⟨(some 17), .len false (.t 16), none, []⟩,
           ⟨(some 18), .bin .plain .add (.t 14) (.t 17), none, []⟩,
           ⟨(some 19), .fa 4 (.t 1), none, []⟩,
           ⟨(some 20), .load false 1 (.t 19), none, []⟩,
           ⟨(some 21), .len false (.t 20), none, []⟩,
           ⟨(some 22), .bin .plain .add (.t 18) (.t 21), none, []⟩,
           ⟨(some 23), .bin .plain .eql (.t 22) (.k (.int .i64 0)), none, []⟩,
           ⟨(some 3), .mv (.t 23), none, []⟩])
         (.seq
          (.reg [] [
            ⟨(some 25), .bin .plain .eql (.t 5) (.k (.int .i64 1)), none, []⟩,
            ⟨(some 24), .mv (.t 25), none, []⟩])
          (.cond (.t 24)
           (.reg [] [
             ⟨(some 26), .fa 1 (.t 1), none, []⟩,
             ⟨(some 27), .load false 1 (.t 26), none, []⟩,
             ⟨(some 28), .len false (.t 27), none, []⟩,
             ⟨(some 29), .bin .plain .leq (.t 28) (.k (.int .i64 80)), none, []⟩,
             ⟨(some 30), .mv (.t 29), none, []⟩,
             ⟨(some 31), .fa 2 (.t 1), (some (30, true)), []⟩,
             ⟨(some 32), .load false 1 (.t 31), (some (30, true)), []⟩,
             ⟨(some 33), .len false (.t 32), (some (30, true)), []⟩,
             ⟨(some 34), .bin .plain .leq (.t 33) (.k (.int .i64 1024)), (some (30, true)), []⟩,
             ⟨(some 35), .pick (.t 30) (.t 34) (.k (.bool false)), none, []⟩,
             ⟨(some 36), .mv (.t 35), none, []⟩,
             ⟨(some 37), .fa 3 (.t 1), (some (36, true)), []⟩,
             ⟨(some 38), .load false 1 (.t 37), (some (36, true)), []⟩,
             ⟨(some 39), .len false (.t 38), (some (36, true)), []⟩,
             ⟨(some 40), .bin .plain .eql (.t 39) (.k (.int .i64 0)), (some (36, true)), []⟩,
             ⟨(some 41), .pick (.t 36) (.t 40) (.k (.bool false)), none, []⟩,
             ⟨(some 42), .mv (.t 41), none, []⟩,
             ⟨(some 43), .fa 4 (.t 1), (some (42, true)), []⟩,
             ⟨(some 44), .load false 1 (.t 43), (some (42, true)), []⟩,
             ⟨(some 45), .len false (.t 44), (some (42, true)), []⟩,
             ⟨(some 46), .bin .plain .eql (.t 45) (.k (.int .i64 2)), (some (42, true)), []⟩,
             ⟨(some 47), .pick (.t 42) (.t 46) (.k (.bool false)), none, []⟩,
             ⟨(some 3), .mv (.t 47), none, []⟩])
           (.seq
            (.reg [] [
              ⟨(some 49), .bin .plain .eql (.t 5) (.k (.int .i64 2)), none, []⟩,
              ⟨(some 48), .mv (.t 49), none, []⟩])
            (.cond (.t 48)
             (.reg [] [
               ⟨(some 50), .fa 1 (.t 1), none, []⟩,
               ⟨(some 51), .load false 1 (.t 50), none, []⟩,
               ⟨(some 52), .len false (.t 51), none, []⟩,
               ⟨(some 53), .bin .plain .leq (.t 52) (.k (.int .i64 80)), none, []⟩,
               ⟨(some 54), .mv (.t 53), none, []⟩,
               ⟨(some 55), .fa 2 (.t 1), (some (54, true)), []⟩,
               ⟨(some 56), .load false 1 (.t 55), (some (54, true)), []⟩,
               ⟨(some 57), .len false (.t 56), (some (54, true)), []⟩,
               ⟨(some 58), .bin .plain .eql (.t 57) (.k (.int .i64 0)), (some (54, true)), []⟩,
               ⟨(some 59), .pick (.t 54) (.t 58) (.k (.bool false)), none, []⟩,
               ⟨(some 60), .mv (.t 59), none, []⟩,
               ⟨(some 61), .fa 4 (.t 1), (some (60, true)), []⟩,
               ⟨(some 62), .load false 1 (.t 61), (some (60, true)), []⟩,
               ⟨(some 63), .len false (.t 62), (some (60, true)), []⟩,
               ⟨(some 64), .bin .plain .eql (.t 63) (.k (.int .i64 2)), (some (60, true)), []⟩,
               ⟨(some 65), .pick (.t 60) (.t 64) (.k (.bool false)), none, []⟩,
               ⟨(some 3), .mv (.t 65), none, []⟩])
             (.seq
              (.reg [] [
                ⟨(some 67), .bin .plain .eql (.t 5) (.k (.int .i64 3)), none, []⟩,
                ⟨(some 66), .mv (.t 67), none, []⟩])
              (.cond (.t 66)
               (.reg [] [
                 ⟨(some 68), .fa 1 (.t 1), none, []⟩,
                 ⟨(some 69), .load false 1 (.t 68), none, []⟩,
                 ⟨(some 70), .len false (.t 69), none, []⟩,
                 ⟨(some 71), .fa 2 (.t 1), none, []⟩,
                 ⟨(some 72), .load false 1 (.t 71), none, []⟩,
                 ⟨(some 73), .len false (.t 72), none, []⟩,
                 ⟨(some 74), .bin .plain .add (.t 70) (.t 73), none, []⟩,
                 ⟨(some 75), .fa 4 (.t 1), none, []⟩,
                 ⟨(some 76), .load false 1 (.t 75), none, []⟩,
                 ⟨(some 77), .len false (.t 76), none, []⟩,
                 ⟨(some 78), .bin .plain .add (.t 74) (.t 77), none, []⟩,
                 ⟨(some 79), .bin .plain .eql (.t 78) (.k (.int .i64 0)), none, []⟩,
                 ⟨(some 3), .mv (.t 79), none, []⟩])
               .skip))))))))))
     (.seq
      (.reg [] [
        ⟨(some 80), .mv (.t 3), none, []⟩,
        ⟨(some 81), .mv (.t 80), none, []⟩,
        ⟨(some 82), .fa 4 (.t 1), (some (81, true)), []⟩,
        ⟨(some 83), .load false 1 (.t 82), (some (81, true)), []⟩,
        ⟨(some 84), .call n_slices_ContainsFunc_sl_api_Tree_api_Tree [(.t 83), (.f n_tree_formed_1)] [], (some (81, true)), []⟩,
        ⟨(some 85), .un .not (.t 84), (some (81, true)), []⟩,
        ⟨(some 86), .pick (.t 81) (.t 85) (.k (.bool false)), none, []⟩,
        ⟨(some 2), .mv (.t 86), none, []⟩])
      (.ret i_tree_formed_r))))),
  [.tmp 2], [], false, []⟩

def i_tree_formed_1_r : List Bool := [false, false, true, false, false, false]
/-- heartwood/tree.formed$1 -/
def i_tree_formed_1 : Ev.Fn := ⟨1, 6, 1,
  (.seq
   (.reg [] [
     ⟨(some 1), .box 0 5 (.t 0), none, []⟩,
     ⟨(some 2), .mv (.k (.bool false)), none, []⟩])
   (.seq
    (.reg [] [
      ⟨(some 3), .load true 5 (.t 1), none, []⟩,
      ⟨(some 4), .qcall n_tree_formed [(.t 3)] [], none, []⟩,
      ⟨(some 5), .un .not (.t 4), none, []⟩,
      ⟨(some 2), .mv (.t 5), none, []⟩])
    (.ret i_tree_formed_1_r))),
  [.tmp 2], [], false, []⟩

def i_tree_told_r : List Bool := [false, false, false, false, true, true, false, false, false, false, false, false, false, false, false, false, false, false, false, false, false, false, false, false, false, false, false, false, false, false, false, false, false, false, false, false, false, false, false, false, false, false, false, false, false, false, false, false, false, false, false, false, false, false, false, false, false, false, false, false, false, false, false, false, false, false, false, false, false, false, false, false, false, false, false, false, false, false, false, false, false, false, false, false, false, false, false, false, false, false, false, false, false, false, false, false, false, false, false, false, false, false, false, false, false]
def i_tree_told_j0 : List Bool := [true, false, false, true, false, false, false, false, false, false, false, false, false, false, false, false, false, false, false, false, false, false, false, false, false, false, false, false, false, false, false, false, false, false, false, false, false, false, false, false, false, false, false, false, false, false, false, false, false, false, false, false, false, false, false, false, false, false, false, false, false, false, false, false, false, false, false, false, false, false, false, false, false, false, false, false, false, false, false, false, false, false, false, false, false, false, false, false, false, false, false, false, false, false, false, false, false, false, false, false, false, false, false, false, false]
/-- heartwood/tree.told -/
def i_tree_told : Ev.Fn := ⟨2, 105, 1,
  (.seq
   (.reg [] [
     ⟨(some 3), .box 0 5 (.t 1), none, []⟩,
     ⟨(some 4), .cn (.k (.slice none 0 0)), none, []⟩,
     ⟨(some 5), .mv (.k .nilIface), none, []⟩])
   (.seq
    (.seq
     (.reg [] [
       ⟨(some 13), .fa 0 (.t 3), none, []⟩,
       ⟨(some 14), .load false 1 (.t 13), none, []⟩])
     (.block 0 i_tree_told_j0
      (.seq
       (.reg [] [
         ⟨(some 16), .bin .plain .eql (.t 14) (.k (.int .i64 0)), none, []⟩,
         ⟨(some 15), .mv (.t 16), none, []⟩])
       (.cond (.t 15)
        (.seq
         (.reg [] [
           ⟨(some 17), .mv (.t 0), none, []⟩,
           ⟨(some 18), .qcall n_digest_None [] [], none, []⟩,
           ⟨(some 19), .qcall n_digest_Of [(.t 17), (.t 18)] [], none, []⟩,
           ⟨(some 20), .ext 0 (.t 19), none, []⟩,
           ⟨(some 21), .ext 1 (.t 19), none, []⟩,
           ⟨(some 4), .cn (.t 20), none, []⟩,
           ⟨(some 5), .mv (.t 21), none, []⟩])
         (.ret i_tree_told_r))
        (.seq
         (.reg [] [
           ⟨(some 23), .bin .plain .eql (.t 14) (.k (.int .i64 3)), none, []⟩,
           ⟨(some 22), .mv (.t 23), none, []⟩])
         (.cond (.t 22)
          (.seq
           (.seq
            (.reg [] [
              ⟨(some 24), .fa 3 (.t 3), none, []⟩,
              ⟨(some 25), .load false 1 (.t 24), none, []⟩,
              ⟨(some 26), .len false (.t 25), none, []⟩,
              ⟨(some 27), .mv (.t 0), none, []⟩,
              ⟨(some 28), .bin .plain .neq (.t 26) (.t 27), none, []⟩])
            (.cond (.t 28)
             (.seq
              (.reg [] [
                ⟨(some 29), .mki ty_api_Code (.k (.int .i64 3)), none, []⟩,
                ⟨(some 4), .cn (.k (.slice none 0 0)), none, []⟩,
                ⟨(some 5), .mv (.t 29), none, []⟩])
              (.ret i_tree_told_r))
             .skip))
           (.seq
            (.reg [] [
              ⟨(some 30), .fa 3 (.t 3), none, []⟩,
              ⟨(some 31), .load false 1 (.t 30), none, []⟩,
              ⟨(some 32), .qcall n_slices_Clone_sl_byte_byte [(.t 31)] [], none, []⟩,
              ⟨(some 4), .cn (.t 32), none, []⟩,
              ⟨(some 5), .mv (.k .nilIface), none, []⟩])
            (.ret i_tree_told_r)))
          .skip))))))
    (.seq
     (.reg [] [
       ⟨(some 33), .fa 3 (.t 3), none, []⟩,
       ⟨(some 34), .load false 1 (.t 33), none, []⟩,
       ⟨(some 6), .cn (.t 34), none, []⟩])
     (.seq
      (.seq
       (.reg [] [
         ⟨(some 35), .fa 0 (.t 3), none, []⟩,
         ⟨(some 36), .load false 1 (.t 35), none, []⟩,
         ⟨(some 37), .bin .plain .eql (.t 36) (.k (.int .i64 1)), none, []⟩])
       (.cond (.t 37)
        (.seq
         (.reg [] [
           ⟨(some 7), .mv (.k .nilIface), none, []⟩])
         (.seq
          (.reg [] [
            ⟨(some 39), .mv (.t 0), none, []⟩,
            ⟨(some 40), .fa 2 (.t 3), none, []⟩,
            ⟨(some 41), .load false 1 (.t 40), none, []⟩,
            ⟨(some 42), .qcall n_digest_Value [(.t 41)] [], none, []⟩,
            ⟨(some 43), .qcall n_digest_Of [(.t 39), (.t 42)] [], none, []⟩,
            ⟨(some 38), .mv (.t 43), none, []⟩,
            ⟨(some 44), .ext 0 (.t 38), none, []⟩,
            ⟨(some 45), .ext 1 (.t 38), none, []⟩,
            ⟨(some 6), .cn (.t 44), none, []⟩,
            ⟨(some 7), .mv (.t 45), none, []⟩])
          (.seq
           (.reg [] [
             ⟨(some 46), .mv (.t 7), none, []⟩,
             ⟨(some 47), .bin (.iface ty_api_Code true) .neq (.t 46) (.k .nilIface), none, []⟩])
           (.cond (.t 47)
            (.seq
             (.reg [] [
               ⟨(some 48), .mv (.t 7), none, []⟩,
               ⟨(some 4), .cn (.k (.slice none 0 0)), none, []⟩,
               ⟨(some 5), .mv (.t 48), none, []⟩])
             (.ret i_tree_told_r))
            .skip))))
        .skip))
      (.seq
       (.reg [] [
         ⟨(some 50), .mv (.t 0), none, []⟩,
         ⟨(some 51), .fa 1 (.t 3), none, []⟩,
         ⟨(some 52), .load false 1 (.t 51), none, []⟩,
         ⟨(some 53), .cn (.t 6), none, []⟩,
         ⟨(some 54), .qcall n_digest_Pair [(.t 50), (.t 52), (.t 53)] [], none, []⟩,
         ⟨(some 49), .mv (.t 54), none, []⟩,
         ⟨(some 55), .ext 0 (.t 49), none, []⟩,
         ⟨(some 56), .ext 1 (.t 49), none, []⟩,
         ⟨(some 8), .cn (.t 55), none, []⟩,
         ⟨(some 9), .mv (.t 56), none, []⟩])
       (.seq
        (.reg [] [
          ⟨(some 58), .mv (.t 0), none, []⟩,
          ⟨(some 59), .cn (.t 8), none, []⟩,
          ⟨(some 60), .mv (.t 9), none, []⟩,
          ⟨(some 61), .qcall n_tree_of [(.t 58), (.t 59), (.t 60)] [], none, []⟩,
          ⟨(some 57), .mv (.t 61), none, []⟩,
          ⟨(some 62), .ext 0 (.t 57), none, []⟩,
          ⟨(some 63), .ext 1 (.t 57), none, []⟩,
          ⟨(some 10), .cn (.t 62), none, []⟩,
          ⟨(some 9), .mv (.t 63), none, []⟩])
        (.seq
         (.seq
          (.reg [] [
            ⟨(some 64), .mv (.t 9), none, []⟩,
            ⟨(some 65), .bin (.iface ty_api_Code true) .neq (.t 64) (.k .nilIface), none, []⟩])
          (.cond (.t 65)
           (.seq
            (.reg [] [
              ⟨(some 66), .mv (.t 9), none, []⟩,
              ⟨(some 4), .cn (.k (.slice none 0 0)), none, []⟩,
              ⟨(some 5), .mv (.t 66), none, []⟩])
            (.ret i_tree_told_r))
           .skip))
         (.seq
          (.reg [] [
            ⟨(some 68), .mv (.t 0), none, []⟩,
            ⟨(some 69), .fa 4 (.t 3), none, []⟩,
            ⟨(some 70), .load false 1 (.t 69), none, []⟩,
            ⟨(some 71), .ia 5 (.t 70) (.k (.int .i64 0)), none, []⟩,
            ⟨(some 72), .load true 5 (.t 71), none, []⟩,
            ⟨(some 73), .qcall n_tree_told [(.t 68), (.t 72)] [], none, []⟩,
            ⟨(some 67), .mv (.t 73), none, []⟩,
            ⟨(some 74), .ext 0 (.t 67), none, []⟩,
            ⟨(some 75), .ext 1 (.t 67), none, []⟩,
            ⟨(some 11), .cn (.t 74), none, []⟩,
            ⟨(some 9), .mv (.t 75), none, []⟩])
          (.seq
           (.seq
            (.reg [] [
              ⟨(some 76), .mv (.t 9), none, []⟩,
              ⟨(some 77), .bin (.iface ty_api_Code true) .neq (.t 76) (.k .nilIface), none, []⟩])
            (.cond (.t 77)
             (.seq
              (.reg [] [
                ⟨(some 78), .mv (.t 9), none, []⟩,
                ⟨(some 4), .cn (.k (.slice none 0 0)), none, []⟩,
                ⟨(some 5), .mv (.t 78), none, []⟩])
              (.ret i_tree_told_r))
             .skip))
           (.seq
            (.reg [] [
              ⟨(some 80), .mv (.t 0), none, []⟩,
              ⟨(some 81), .fa 4 (.t 3), none, []⟩,
              ⟨(some 82), .load false 1 (.t 81), none, []⟩,
              ⟨(some 83), .ia 5 (.t 82) (.k (.int .i64 1)), none, []⟩,
              ⟨(some 84), .load true 5 (.t 83), none, []⟩,
              ⟨(some 85), .qcall n_tree_told [(.t 80), (.t 84)] [], none, []⟩,
              ⟨(some 79), .mv (.t 85), none, []⟩,
              ⟨(some 86), .ext 0 (.t 79), none, []⟩,
              ⟨(some 87), .ext 1 (.t 79), none, []⟩,
              ⟨(some 12), .cn (.t 86), none, []⟩,
              ⟨(some 9), .mv (.t 87), none, []⟩])
            (.seq
             (.seq
              (.reg [] [
                ⟨(some 88), .mv (.t 9), none, []⟩,
                ⟨(some 89), .bin (.iface ty_api_Code true) .neq (.t 88) (.k .nilIface), none, []⟩])
              (.cond (.t 89)
               (.seq
                (.reg [] [
                  ⟨(some 90), .mv (.t 9), none, []⟩,
                  ⟨(some 4), .cn (.k (.slice none 0 0)), none, []⟩,
                  ⟨(some 5), .mv (.t 90), none, []⟩])
                (.ret i_tree_told_r))
               .skip))
             (.seq
              (.reg [] [
                ⟨(some 92), .mv (.t 0), none, []⟩,
                ⟨(some 93), .cn (.t 11), none, []⟩,
                ⟨(some 94), .cn (.t 10), none, []⟩,
                ⟨(some 95), .cn (.t 12), none, []⟩,
                ⟨(some 96), .qcall n_digest_Node [(.t 92), (.t 93), (.t 94), (.t 95)] [], none, []⟩,
                ⟨(some 91), .mv (.t 96), none, []⟩,
                ⟨(some 97), .ext 0 (.t 91), none, []⟩,
                ⟨(some 98), .ext 1 (.t 91), none, []⟩,
                ⟨(some 8), .cn (.t 97), none, []⟩,
                ⟨(some 9), .mv (.t 98), none, []⟩])
              (.seq
               (.reg [] [
                 ⟨(some 99), .mv (.t 0), none, []⟩,
                 ⟨(some 100), .cn (.t 8), none, []⟩,
                 ⟨(some 101), .mv (.t 9), none, []⟩,
                 ⟨(some 102), .qcall n_tree_of [(.t 99), (.t 100), (.t 101)] [], none, []⟩,
                 ⟨(some 103), .ext 0 (.t 102), none, []⟩,
                 ⟨(some 104), .ext 1 (.t 102), none, []⟩,
                 ⟨(some 4), .cn (.t 103), none, []⟩,
                 ⟨(some 5), .mv (.t 104), none, []⟩])
               (.ret i_tree_told_r)))))))))))))),
  [.tmp 4, .tmp 5], [], false, []⟩

def i_digest_None_r : List Bool := [true, false]
/-- heartwood/digest.None -/
def i_digest_None : Ev.Fn := ⟨0, 2, 0,
  (.seq
   (.reg [] [
     ⟨(some 0), .cn (.k (.slice none 0 0)), none, []⟩])
   (.seq
    (.reg [] [
      ⟨(some 1), .litd 1 1 [(.int .u8 0)] [(0, (.k (.int .u8 3)))], none, []⟩,
      ⟨(some 0), .cn (.t 1), none, []⟩])
    (.ret i_digest_None_r))),
  [.tmp 0], [], false, []⟩

def i_digest_Of_r : List Bool := [false, false, false, false, true, true, false, false, false, false, false, false, false, false, false]
/-- heartwood/digest.Of -/
def i_digest_Of : Ev.Fn := ⟨2, 15, 0,
  (.seq
   (.reg [] [
     ⟨(some 4), .cn (.k (.slice none 0 0)), none, []⟩,
     ⟨(some 5), .mv (.k .nilIface), none, []⟩])
   (.seq
    (.seq
     (.reg [] [
       ⟨(some 6), .mv (.t 0), none, []⟩,
       ⟨(some 7), .qcall n_digest_width [(.t 6)] [], none, []⟩,
       ⟨(some 8), .un .not (.t 7), none, []⟩])
     (.cond (.t 8)
      (.seq
       (.reg [] [
         ⟨(some 9), .mki ty_api_Code (.k (.int .i64 1)), none, []⟩,
         ⟨(some 4), .cn (.k (.slice none 0 0)), none, []⟩,
         ⟨(some 5), .mv (.t 9), none, []⟩])
       (.ret i_digest_Of_r))
      .skip))
    (.seq
     (.reg [] [
       ⟨(some 10), .cn (.t 1), none, []⟩,
       ⟨(some 11), .qcall n_sha_Sum [(.t 10)] [], none, []⟩,
       ⟨(some 12), .mv (.t 0), none, []⟩,
       ⟨(some 13), .slice 1 (.t 11) none (some (.t 12)) none, none, []⟩,
       ⟨(some 14), .qcall n_slices_Clone_sl_byte_byte [(.t 13)] [], none, []⟩,
       ⟨(some 4), .cn (.t 14), none, []⟩,
       ⟨(some 5), .mv (.k .nilIface), none, []⟩])
     (.ret i_digest_Of_r)))),
  [.tmp 4, .tmp 5], [], false, []⟩

def i_digest_width_r : List Bool := [false, false, true, false, false, false, false, false, false]
/-- heartwood/digest.width -/
def i_digest_width : Ev.Fn := ⟨1, 9, 0,
  (.seq
   (.reg [] [
     ⟨(some 2), .mv (.k (.bool false)), none, []⟩])
   (.seq
    (.reg [] [
      ⟨(some 3), .mv (.t 0), none, []⟩,
      ⟨(some 4), .bin .plain .geq (.t 3) (.k (.int .i64 1)), none, []⟩,
      ⟨(some 5), .mv (.t 4), none, []⟩,
      ⟨(some 6), .mv (.t 0), (some (5, true)), []⟩,
      ⟨(some 7), .bin .plain .leq (.t 6) (.k (.int .i64 32)), (some (5, true)), []⟩,
      ⟨(some 8), .pick (.t 5) (.t 7) (.k (.bool false)), none, []⟩,
      ⟨(some 2), .mv (.t 8), none, []⟩])
    (.ret i_digest_width_r))),
  [.tmp 2], [], false, []⟩

def i_sha_Sum_r : List Bool := [false, false, true, false, false, false, false, false, false, false, false, false, false, false, false, false, false, false, false, false, false, false, false, false, false, false, false, false, false, false, false, false, false, false, false, false, false, false, false, false, false, false, false, false, false, false, false, false, false, false, false, false, false, false, false, false, false, false, false, false, false, false, false, false, false, false, false, false, false, false, false, false, false, false, false, false]
def i_sha_Sum_j3 : List Bool := [false, false, false, false, false, false, false, true, false, true, false, false, false, false, false, false, false, false, false, false, false, false, false, false, false, false, false, false, false, false, false, false, false, false, false, false, false, true, true, false, false, false, false, false, false, false, false, false, false, false, false, false, false, false, false, false, false, false, false, false, false, false, false, false, false, false, false, false, false, false, false, false, false, false, false, false]
def i_sha_Sum_k1 : List Bool := [false, false, false, false, false, false, false, true, false, true, false, false, false, false, false, false, false, false, false, false, false, false, false, false, false, false, false, false, false, false, false, false, false, false, false, false, false, true, true, false, false, false, false, false, false, false, false, false, false, false, false, false, false, false, false, false, false, false, false, false, false, false, false, false, false, false, false, false, false, false, false, false, false, false, false, false]
def i_sha_Sum_j2 : List Bool := [false, false, false, false, false, false, false, true, false, false, false, false, false, false, false, false, false, false, false, false, false, false, false, false, false, false, false, false, false, false, false, false, false, false, false, false, false, true, true, false, false, false, false, false, false, false, false, false, false, false, false, false, false, false, false, false, false, false, false, false, false, false, false, false, false, false, false, false, false, false, false, false, false, false, false, false]
def i_sha_Sum_j1 : List Bool := [false, false, false, false, false, false, false, true, false, false, false, false, false, false, false, false, false, false, false, false, false, false, false, false, false, false, false, false, false, false, false, false, false, false, false, false, false, true, true, false, false, false, false, false, false, false, false, false, false, false, false, false, false, false, false, false, false, false, false, false, false, false, false, false, false, false, false, false, false, false, false, false, false, false, false, false]
def i_sha_Sum_k0 : List Bool := [false, false, false, false, false, false, false, true, false, false, false, false, false, false, false, false, false, false, false, false, false, false, false, false, false, false, false, false, false, false, false, false, false, false, false, false, false, true, true, false, false, false, false, false, false, false, false, false, false, false, false, false, false, false, false, false, false, false, false, false, false, false, false, false, false, false, false, false, false, false, false, false, false, false, false, false]
def i_sha_Sum_j0 : List Bool := [false, false, false, false, false, false, false, true, false, false, false, false, false, false, false, false, false, false, false, false, false, false, false, false, false, false, false, false, false, false, false, false, false, false, false, false, false, false, false, false, false, false, false, false, false, false, false, false, false, false, false, false, false, false, false, false, false, false, false, false, false, false, false, false, false, false, false, false, false, false, false, false, false, false, false, false]
def i_sha_Sum_j5 : List Bool := [false, false, false, false, false, false, false, false, false, false, true, false, false, false, false, false, false, false, false, false, false, false, false, false, false, false, false, false, false, false, false, false, false, false, false, false, false, false, false, false, false, false, false, false, false, false, false, false, false, false, false, false, false, false, false, false, true, true, false, false, false, false, false, false, false, false, false, false, false, false, false, false, false, false, false, false]
def i_sha_Sum_k2 : List Bool := [false, false, false, false, false, false, false, false, false, false, true, false, false, false, false, false, false, false, false, false, false, false, false, false, false, false, false, false, false, false, false, false, false, false, false, false, false, false, false, false, false, false, false, false, false, false, false, false, false, false, false, false, false, false, false, false, true, true, false, false, false, false, false, false, false, false, false, false, false, false, false, false, false, false, false, false]
def i_sha_Sum_j4 : List Bool := [false, false, false, false, false, false, false, false, false, false, true, false, false, false, false, false, false, false, false, false, false, false, false, false, false, false, false, false, false, false, false, false, false, false, false, false, false, false, false, false, false, false, false, false, false, false, false, false, false, false, false, false, false, false, false, false, false, false, false, false, false, false, false, false, false, false, false, false, false, false, false, false, false, false, false, false]
abbrev s_sha_Sum_R (t2 : AV) (h : Heap) : St := ⟨[.undef, .undef, t2, .undef, .undef, .undef, .undef, .undef, .undef, .undef, .undef, .undef, .undef, .undef, .undef, .undef, .undef, .undef, .undef, .undef, .undef, .undef, .undef, .undef, .undef, .undef, .undef, .undef, .undef, .undef, .undef, .undef, .undef, .undef, .undef, .undef, .undef, .undef, .undef, .undef, .undef, .undef, .undef, .undef, .undef, .undef, .undef, .undef, .undef, .undef, .undef, .undef, .undef, .undef, .undef, .undef, .undef, .undef, .undef, .undef, .undef, .undef, .undef, .undef, .undef, .undef, .undef, .undef, .undef, .undef, .undef, .undef, .undef, .undef, .undef, .undef], h⟩
abbrev s_sha_Sum_K1 (t7 t9 t37 t38 : AV) (h : Heap) : St := ⟨[.undef, .undef, .undef, .undef, .undef, .undef, .undef, t7, .undef, t9, .undef, .undef, .undef, .undef, .undef, .undef, .undef, .undef, .undef, .undef, .undef, .undef, .undef, .undef, .undef, .undef, .undef, .undef, .undef, .undef, .undef, .undef, .undef, .undef, .undef, .undef, .undef, t37, t38, .undef, .undef, .undef, .undef, .undef, .undef, .undef, .undef, .undef, .undef, .undef, .undef, .undef, .undef, .undef, .undef, .undef, .undef, .undef, .undef, .undef, .undef, .undef, .undef, .undef, .undef, .undef, .undef, .undef, .undef, .undef, .undef, .undef, .undef, .undef, .undef, .undef], h⟩
def i_sha_Sum_b1 : IR :=
  (.seq
   (.seq
    (.reg [] [
      ⟨(some 41), .cn (.t 9), none, []⟩,
      ⟨(some 42), .len false (.t 41), none, []⟩,
      ⟨(some 43), .bin .plain .gtr (.t 42) (.k (.int .i64 0)), none, []⟩])
    (.cond (.t 43)
     .skip
     (.exit 2 i_sha_Sum_j2)))
   (.seq
    (.block 3 i_sha_Sum_j3
     (.seq
      (.reg [] [
        ⟨(some 47), .load true 8 (.t 7), none, []⟩,
        ⟨(some 48), .cn (.t 9), none, []⟩,
        ⟨(some 49), .slice 1 (.t 48) none (some (.k (.int .i64 64))) none, none, []⟩,
        ⟨(some 50), .qcall n_sha_Step [(.t 47), (.t 49)] [], none, []⟩,
        ⟨(some 46), .mv (.t 50), none, []⟩,
        ⟨(some 51), .ext 0 (.t 46), none, []⟩,
        ⟨(some 52), .ext 1 (.t 46), none, []⟩,
        ⟨none, .store 8 (.t 7) (.t 51), none, []⟩,
        ⟨(some 4), .mv (.t 52), none, []⟩])
      (.seq
       (.reg [] [
         ⟨(some 53), .mv (.t 4), none, []⟩,
         ⟨(some 54), .bin (.iface ty_api_Code true) .neq (.t 53) (.k .nilIface), none, []⟩])
       (.cond (.t 54)
        (.seq
         (.reg [] [
           ⟨(some 2), .cn (.k (.slice none 0 0)), none, []⟩])
         (.ret i_sha_Sum_r))
        .skip))))
    (.reg [] [
      ⟨(some 44), .cn (.t 9), none, []⟩,
      ⟨(some 45), .slice 1 (.t 44) (some (.k (.int .i64 64))) none none, none, []⟩,
      ⟨(some 9), .cn (.t 45), none, []⟩])))

abbrev s_sha_Sum_J2 (t7 t37 t38 : AV) (h : Heap) : St := ⟨[.undef, .undef, .undef, .undef, .undef, .undef, .undef, t7, .undef, .undef, .undef, .undef, .undef, .undef, .undef, .undef, .undef, .undef, .undef, .undef, .undef, .undef, .undef, .undef, .undef, .undef, .undef, .undef, .undef, .undef, .undef, .undef, .undef, .undef, .undef, .undef, .undef, t37, t38, .undef, .undef, .undef, .undef, .undef, .undef, .undef, .undef, .undef, .undef, .undef, .undef, .undef, .undef, .undef, .undef, .undef, .undef, .undef, .undef, .undef, .undef, .undef, .undef, .undef, .undef, .undef, .undef, .undef, .undef, .undef, .undef, .undef, .undef, .undef, .undef, .undef], h⟩
abbrev s_sha_Sum_J1 (t7 t37 t38 : AV) (h : Heap) : St := ⟨[.undef, .undef, .undef, .undef, .undef, .undef, .undef, t7, .undef, .undef, .undef, .undef, .undef, .undef, .undef, .undef, .undef, .undef, .undef, .undef, .undef, .undef, .undef, .undef, .undef, .undef, .undef, .undef, .undef, .undef, .undef, .undef, .undef, .undef, .undef, .undef, .undef, t37, t38, .undef, .undef, .undef, .undef, .undef, .undef, .undef, .undef, .undef, .undef, .undef, .undef, .undef, .undef, .undef, .undef, .undef, .undef, .undef, .undef, .undef, .undef, .undef, .undef, .undef, .undef, .undef, .undef, .undef, .undef, .undef, .undef, .undef, .undef, .undef, .undef, .undef], h⟩
abbrev s_sha_Sum_K0 (t7 t37 t38 : AV) (h : Heap) : St := ⟨[.undef, .undef, .undef, .undef, .undef, .undef, .undef, t7, .undef, .undef, .undef, .undef, .undef, .undef, .undef, .undef, .undef, .undef, .undef, .undef, .undef, .undef, .undef, .undef, .undef, .undef, .undef, .undef, .undef, .undef, .undef, .undef, .undef, .undef, .undef, .undef, .undef, t37, t38, .undef, .undef, .undef, .undef, .undef, .undef, .undef, .undef, .undef, .undef, .undef, .undef, .undef, .undef, .undef, .undef, .undef, .undef, .undef, .undef, .undef, .undef, .undef, .undef, .undef, .undef, .undef, .undef, .undef, .undef, .undef, .undef, .undef, .undef, .undef, .undef, .undef], h⟩
def i_sha_Sum_b0 : IR :=
  (.seq
   (.reg [] [
     ⟨(some 39), .bin .plain .lss (.t 38) (.k (.int .i64 2)), none, []⟩])
   (.seq
    (.cond (.t 39)
     .skip
     (.exit 0 i_sha_Sum_j0))
    (.seq
     (.block 1 i_sha_Sum_j1
      (.seq
       (.reg [] [
         ⟨(some 40), .ix 2 1 false (.t 37) (.t 38), none, []⟩,
         ⟨(some 9), .cn (.t 40), none, []⟩])
       (.block 2 i_sha_Sum_j2
        (.loop i_sha_Sum_k1 i_sha_Sum_b1))))
     (.reg [] [
       ⟨(some 55), .bin .plain .add (.t 38) (.k (.int .i64 1)), none, []⟩,
       ⟨(some 38), .mv (.t 55), none, []⟩]))))

abbrev s_sha_Sum_J0 (t7 : AV) (h : Heap) : St := ⟨[.undef, .undef, .undef, .undef, .undef, .undef, .undef, t7, .undef, .undef, .undef, .undef, .undef, .undef, .undef, .undef, .undef, .undef, .undef, .undef, .undef, .undef, .undef, .undef, .undef, .undef, .undef, .undef, .undef, .undef, .undef, .undef, .undef, .undef, .undef, .undef, .undef, .undef, .undef, .undef, .undef, .undef, .undef, .undef, .undef, .undef, .undef, .undef, .undef, .undef, .undef, .undef, .undef, .undef, .undef, .undef, .undef, .undef, .undef, .undef, .undef, .undef, .undef, .undef, .undef, .undef, .undef, .undef, .undef, .undef, .undef, .undef, .undef, .undef, .undef, .undef], h⟩
abbrev s_sha_Sum_K2 (t10 t56 t57 : AV) (h : Heap) : St := ⟨[.undef, .undef, .undef, .undef, .undef, .undef, .undef, .undef, .undef, .undef, t10, .undef, .undef, .undef, .undef, .undef, .undef, .undef, .undef, .undef, .undef, .undef, .undef, .undef, .undef, .undef, .undef, .undef, .undef, .undef, .undef, .undef, .undef, .undef, .undef, .undef, .undef, .undef, .undef, .undef, .undef, .undef, .undef, .undef, .undef, .undef, .undef, .undef, .undef, .undef, .undef, .undef, .undef, .undef, .undef, .undef, t56, t57, .undef, .undef, .undef, .undef, .undef, .undef, .undef, .undef, .undef, .undef, .undef, .undef, .undef, .undef, .undef, .undef, .undef, .undef], h⟩
def i_sha_Sum_b2 : IR :=
  (.seq
   (.reg [] [
     ⟨(some 58), .bin .plain .lss (.t 57) (.k (.int .i64 8)), none, []⟩])
   (.seq
    (.cond (.t 58)
     .skip
     (.exit 4 i_sha_Sum_j4))
    (.seq
     (.block 5 i_sha_Sum_j5
      (.seq
       (.reg [] [
         ⟨(some 59), .ix 8 1 false (.t 56) (.t 57), none, []⟩,
         ⟨(some 12), .mv (.t 59), none, []⟩])
       (.reg [] [
         ⟨(some 60), .mv (.t 10), none, []⟩,
         ⟨(some 61), .mv (.t 12), none, []⟩,
         ⟨(some 62), .bin .plain .shr (.t 61) (.k (.int .u64 24)), none, []⟩,
         ⟨(some 63), .conv .u8 (.t 62), none, []⟩,
         ⟨(some 64), .mv (.t 12), none, []⟩,
         ⟨(some 65), .bin .plain .shr (.t 64) (.k (.int .u64 16)), none, []⟩,
         ⟨(some 66), .conv .u8 (.t 65), none, []⟩,
         ⟨(some 67), .mv (.t 12), none, []⟩,
         ⟨(some 68), .bin .plain .shr (.t 67) (.k (.int .u64 8)), none, []⟩,
         ⟨(some 69), .conv .u8 (.t 68), none, []⟩,
         ⟨(some 70), .mv (.t 12), none, []⟩,
         ⟨(some 71), .conv .u8 (.t 70), none, []⟩,
         ⟨(some 72), .litd 1 4 [(.int .u8 0)] [(0, (.t 63)), (1, (.t 66)), (2, (.t 69)), (3, (.t 71))], none, []⟩,
         ⟨(some 73), .app 2 ty_uint8 1 1 (.t 60) (.t 72), none, []⟩,
         ⟨(some 10), .mv (.t 73), none, []⟩])))
     (.reg [] [
       ⟨(some 74), .bin .plain .add (.t 57) (.k (.int .i64 1)), none, []⟩,
       ⟨(some 57), .mv (.t 74), none, []⟩]))))

abbrev s_sha_Sum_J4 (t10 : AV) (h : Heap) : St := ⟨[.undef, .undef, .undef, .undef, .undef, .undef, .undef, .undef, .undef, .undef, t10, .undef, .undef, .undef, .undef, .undef, .undef, .undef, .undef, .undef, .undef, .undef, .undef, .undef, .undef, .undef, .undef, .undef, .undef, .undef, .undef, .undef, .undef, .undef, .undef, .undef, .undef, .undef, .undef, .undef, .undef, .undef, .undef, .undef, .undef, .undef, .undef, .undef, .undef, .undef, .undef, .undef, .undef, .undef, .undef, .undef, .undef, .undef, .undef, .undef, .undef, .undef, .undef, .undef, .undef, .undef, .undef, .undef, .undef, .undef, .undef, .undef, .undef, .undef, .undef, .undef], h⟩
/-- heartwood/sha.Sum -/
def i_sha_Sum : Ev.Fn := ⟨1, 76, 3,
  (.seq
   (.reg [] [
     ⟨(some 2), .cn (.k (.slice none 0 0)), none, []⟩])
   (.seq
    (.reg [] [
      ⟨(some 14), .cn (.t 0), none, []⟩,
      ⟨(some 15), .len false (.t 14), none, []⟩,
      ⟨(some 16), .qcall n_sha_Tail [(.t 15)] [], none, []⟩,
      ⟨(some 13), .mv (.t 16), none, []⟩,
      ⟨(some 17), .ext 0 (.t 13), none, []⟩,
      ⟨(some 18), .ext 1 (.t 13), none, []⟩,
      ⟨(some 3), .cn (.t 17), none, []⟩,
      ⟨(some 4), .mv (.t 18), none, []⟩])
    (.seq
     (.seq
      (.reg [] [
        ⟨(some 19), .mv (.t 4), none, []⟩,
        ⟨(some 20), .bin (.iface ty_api_Code true) .neq (.t 19) (.k .nilIface), none, []⟩])
      (.cond (.t 20)
       (.seq
        (.reg [] [
          ⟨(some 2), .cn (.k (.slice none 0 0)), none, []⟩])
        (.ret i_sha_Sum_r))
       .skip))
     (.seq
      (.reg [] [
        ⟨(some 21), .cn (.t 0), none, []⟩,
        ⟨(some 22), .len false (.t 21), none, []⟩,
        ⟨(some 23), .bin .plain .quo (.t 22) (.k (.int .i64 64)), none, []⟩,
        ⟨(some 24), .bin .plain .mul (.t 23) (.k (.int .i64 64)), none, []⟩,
        ⟨(some 5), .mv (.t 24), none, []⟩])
      (.seq
       (.reg [] [
         ⟨(some 25), .lit 0 ty_uint8 1 0 [(.int .u8 0)] [], none, []⟩,
         ⟨(some 26), .cn (.t 0), none, []⟩,
         ⟨(some 27), .mv (.t 5), none, []⟩,
         ⟨(some 28), .slice 1 (.t 26) (some (.t 27)) none none, none, []⟩,
         ⟨(some 29), .app 0 ty_uint8 1 1 (.t 25) (.t 28), none, []⟩,
         ⟨(some 30), .cn (.t 3), none, []⟩,
         ⟨(some 31), .app 0 ty_uint8 1 1 (.t 29) (.t 30), none, []⟩,
         ⟨(some 6), .cn (.t 31), none, [31]⟩])
       (.seq
        (.reg [] [
          ⟨(some 32), .load true 8 (.g 0), none, []⟩,
          ⟨(some 7), .new 1 [(.int .u32 0), (.int .u32 0), (.int .u32 0), (.int .u32 0), (.int .u32 0), (.int .u32 0), (.int .u32 0), (.int .u32 0)], none, []⟩,
          ⟨none, .store 8 (.t 7) (.t 32), none, []⟩])
        (.seq
         (.seq
          (.reg [] [
            ⟨(some 33), .cn (.t 0), none, []⟩,
            ⟨(some 34), .mv (.t 5), none, []⟩,
            ⟨(some 35), .slice 1 (.t 33) none (some (.t 34)) none, none, []⟩,
            ⟨(some 36), .cn (.t 6), none, []⟩,
            ⟨(some 37), .build [(.slice none 0 0), (.slice none 0 0)] [(0, 1, (.t 35)), (1, 1, (.t 36))], none, []⟩,
            ⟨(some 38), .mv (.k (.int .i64 0)), none, []⟩])
          (.block 0 i_sha_Sum_j0
           (.loop i_sha_Sum_k0 i_sha_Sum_b0)))
         (.seq
          (.reg [] [
            ⟨(some 10), .mv (.k (.slice none 0 0)), none, []⟩])
          (.seq
           (.seq
            (.reg [] [
              ⟨(some 56), .load true 8 (.t 7), none, []⟩,
              ⟨(some 57), .mv (.k (.int .i64 0)), none, []⟩])
            (.block 4 i_sha_Sum_j4
             (.loop i_sha_Sum_k2 i_sha_Sum_b2)))
           (.seq
            (.reg [] [
              ⟨(some 75), .cn (.t 10), none, [10]⟩,
              ⟨(some 2), .cn (.t 75), none, [75]⟩])
            (.ret i_sha_Sum_r))))))))))),
  [.tmp 2], [], false, []⟩

def i_sha_Tail_r : List Bool := [false, false, true, true, false, false, false, false, false, false, false, false, false, false, false, false, false, false, false, false, false, false, false, false, false, false, false, false, false, false, false, false, false, false, false, false, false]
def i_sha_Tail_j1 : List Bool := [true, false, false, false, true, false, false, false, false, false, false, false, false, false, false, false, false, false, false, false, false, false, false, false, false, false, false, false, false, false, false, false, false, false, false, false, false]
def i_sha_Tail_k0 : List Bool := [true, false, false, false, true, false, false, false, false, false, false, false, false, false, false, false, false, false, false, false, false, false, false, false, false, false, false, false, false, false, false, false, false, false, false, false, false]
def i_sha_Tail_j0 : List Bool := [true, false, false, false, true, false, false, false, false, false, false, false, false, false, false, false, false, false, false, false, false, false, false, false, false, false, false, false, false, false, false, false, false, false, false, false, false]
def i_sha_Tail_j3 : List Bool := [true, false, false, false, true, true, false, false, false, false, false, false, false, false, false, false, false, false, false, false, false, false, false, false, false, false, false, false, false, false, false, false, false, false, false, false, false]
def i_sha_Tail_k1 : List Bool := [true, false, false, false, true, true, false, false, false, false, false, false, false, false, false, false, false, false, false, false, false, false, false, false, false, false, false, false, false, false, false, false, false, false, false, false, false]
def i_sha_Tail_j2 : List Bool := [false, false, false, false, true, false, false, false, false, false, false, false, false, false, false, false, false, false, false, false, false, false, false, false, false, false, false, false, false, false, false, false, false, false, false, false, false]
abbrev s_sha_Tail_R (t2 t3 : AV) (h : Heap) : St := ⟨[.undef, .undef, t2, t3, .undef, .undef, .undef, .undef, .undef, .undef, .undef, .undef, .undef, .undef, .undef, .undef, .undef, .undef, .undef, .undef, .undef, .undef, .undef, .undef, .undef, .undef, .undef, .undef, .undef, .undef, .undef, .undef, .undef, .undef, .undef, .undef, .undef], h⟩
abbrev s_sha_Tail_K0 (t0 t4 : AV) (h : Heap) : St := ⟨[t0, .undef, .undef, .undef, t4, .undef, .undef, .undef, .undef, .undef, .undef, .undef, .undef, .undef, .undef, .undef, .undef, .undef, .undef, .undef, .undef, .undef, .undef, .undef, .undef, .undef, .undef, .undef, .undef, .undef, .undef, .undef, .undef, .undef, .undef, .undef, .undef], h⟩
def i_sha_Tail_b0 : IR :=
  (.seq
   (.seq
    (.reg [] [
      ⟨(some 14), .mv (.t 0), none, []⟩,
      ⟨(some 15), .cn (.t 4), none, []⟩,
      ⟨(some 16), .len false (.t 15), none, []⟩,
      ⟨(some 17), .bin .plain .add (.t 14) (.t 16), none, []⟩,
      ⟨(some 18), .bin .plain .rem (.t 17) (.k (.int .i64 64)), none, []⟩,
      ⟨(some 19), .bin .plain .neq (.t 18) (.k (.int .i64 56)), none, []⟩])
    (.cond (.t 19)
     .skip
     (.exit 0 i_sha_Tail_j0)))
   (.block 1 i_sha_Tail_j1
    (.reg [] [
      ⟨(some 20), .mv (.t 4), none, []⟩,
      ⟨(some 21), .litd 1 1 [(.int .u8 0)] [(0, (.k (.int .u8 0)))], none, []⟩,
      ⟨(some 22), .app 0 ty_uint8 1 1 (.t 20) (.t 21), none, []⟩,
      ⟨(some 4), .mv (.t 22), none, []⟩])))

abbrev s_sha_Tail_J0 (t0 t4 : AV) (h : Heap) : St := ⟨[t0, .undef, .undef, .undef, t4, .undef, .undef, .undef, .undef, .undef, .undef, .undef, .undef, .undef, .undef, .undef, .undef, .undef, .undef, .undef, .undef, .undef, .undef, .undef, .undef, .undef, .undef, .undef, .undef, .undef, .undef, .undef, .undef, .undef, .undef, .undef, .undef], h⟩
abbrev s_sha_Tail_K1 (t0 t4 t5 : AV) (h : Heap) : St := ⟨[t0, .undef, .undef, .undef, t4, t5, .undef, .undef, .undef, .undef, .undef, .undef, .undef, .undef, .undef, .undef, .undef, .undef, .undef, .undef, .undef, .undef, .undef, .undef, .undef, .undef, .undef, .undef, .undef, .undef, .undef, .undef, .undef, .undef, .undef, .undef, .undef], h⟩
def i_sha_Tail_b1 : IR :=
  (.seq
   (.seq
    (.reg [] [
      ⟨(some 23), .mv (.t 5), none, []⟩,
      ⟨(some 24), .bin .plain .geq (.t 23) (.k (.int .i64 0)), none, []⟩])
    (.cond (.t 24)
     .skip
     (.exit 2 i_sha_Tail_j2)))
   (.seq
    (.block 3 i_sha_Tail_j3
     (.reg [] [
       ⟨(some 27), .mv (.t 4), none, []⟩,
       ⟨(some 28), .mv (.t 0), none, []⟩,
       ⟨(some 29), .conv .u64 (.t 28), none, []⟩,
       ⟨(some 30), .bin .plain .mul (.k (.int .u64 8)) (.t 29), none, []⟩,
       ⟨(some 31), .mv (.t 5), none, []⟩,
       ⟨(some 32), .bin .plain .shr (.t 30) (.t 31), none, []⟩,
       ⟨(some 33), .conv .u8 (.t 32), none, []⟩,
       ⟨(some 34), .litd 1 1 [(.int .u8 0)] [(0, (.t 33))], none, []⟩,
       ⟨(some 35), .app 0 ty_uint8 1 1 (.t 27) (.t 34), none, []⟩,
       ⟨(some 4), .mv (.t 35), none, []⟩]))
    (.reg [] [
      ⟨(some 25), .mv (.t 5), none, []⟩,
      ⟨(some 26), .bin .plain .sub (.t 25) (.k (.int .i64 8)), none, []⟩,
      ⟨(some 5), .mv (.t 26), none, []⟩])))

abbrev s_sha_Tail_J2 (t4 : AV) (h : Heap) : St := ⟨[.undef, .undef, .undef, .undef, t4, .undef, .undef, .undef, .undef, .undef, .undef, .undef, .undef, .undef, .undef, .undef, .undef, .undef, .undef, .undef, .undef, .undef, .undef, .undef, .undef, .undef, .undef, .undef, .undef, .undef, .undef, .undef, .undef, .undef, .undef, .undef, .undef], h⟩
/-- heartwood/sha.Tail -/
def i_sha_Tail : Ev.Fn := ⟨1, 37, 1,
  (.seq
   (.reg [] [
     ⟨(some 2), .cn (.k (.slice none 0 0)), none, []⟩,
     ⟨(some 3), .mv (.k .nilIface), none, []⟩])
   (.seq
    (.seq
     (.reg [] [
       ⟨(some 6), .mv (.t 0), none, []⟩,
       ⟨(some 7), .bin .plain .lss (.t 6) (.k (.int .i64 0)), none, []⟩,
       ⟨(some 8), .mv (.t 7), none, []⟩,
       ⟨(some 9), .mv (.t 0), (some (8, false)), []⟩,
       ⟨(some 10), .bin .plain .gtr (.t 9) (.k (.int .i64 1125899906842624)), (some (8, false)), []⟩,
       ⟨(some 11), .pick (.t 8) (.k (.bool true)) (.t 10), none, []⟩])
     (.cond (.t 11)
      (.seq
       (.reg [] [
         ⟨(some 12), .mki ty_api_Code (.k (.int .i64 1)), none, []⟩,
         ⟨(some 2), .cn (.k (.slice none 0 0)), none, []⟩,
         ⟨(some 3), .mv (.t 12), none, []⟩])
       (.ret i_sha_Tail_r))
      .skip))
    (.seq
     (.reg [] [
       ⟨(some 13), .lit 0 ty_uint8 1 1 [(.int .u8 0)] [(0, (.k (.int .u8 128)))], none, []⟩,
       ⟨(some 4), .mv (.t 13), none, []⟩])
     (.seq
      (.block 0 i_sha_Tail_j0
       (.loop i_sha_Tail_k0 i_sha_Tail_b0))
      (.seq
       (.seq
        (.reg [] [
          ⟨(some 5), .mv (.k (.int .i64 56)), none, []⟩])
        (.block 2 i_sha_Tail_j2
         (.loop i_sha_Tail_k1 i_sha_Tail_b1)))
       (.seq
        (.reg [] [
          ⟨(some 36), .cn (.t 4), none, [4]⟩,
          ⟨(some 2), .cn (.t 36), none, [36]⟩,
          ⟨(some 3), .mv (.k .nilIface), none, []⟩])
        (.ret i_sha_Tail_r))))))),
  [.tmp 2, .tmp 3], [], false, []⟩

def i_sha_Step_r : List Bool := [false, false, false, false, true, true, false, false, false, false, false, false, false, false, false, false, false, false, false, false, false, false, false, false, false, false, false, false, false, false, false, false, false, false, false, false, false, false, false, false, false, false, false, false, false, false, false, false, false]
def i_sha_Step_j1 : List Bool := [false, false, true, false, true, false, false, false, true, false, false, false, false, false, false, false, false, false, false, false, false, false, true, true, true, false, false, false, false, false, false, false, false, false, false, false, false, false, false, false, false, false, false, false, false, false, false, false, false]
def i_sha_Step_k0 : List Bool := [false, false, true, false, true, false, false, false, true, false, false, false, false, false, false, false, false, false, false, false, false, false, true, true, true, false, false, false, false, false, false, false, false, false, false, false, false, false, false, false, false, false, false, false, false, false, false, false, false]
def i_sha_Step_j0 : List Bool := [false, false, true, false, true, false, false, false, true, false, false, false, false, false, false, false, false, false, false, false, false, false, false, false, false, false, false, false, false, false, false, false, false, false, false, false, false, false, false, false, false, false, false, false, false, false, false, false, false]
def i_sha_Step_j3 : List Bool := [false, false, true, false, true, false, false, false, true, false, false, false, false, false, false, false, false, false, false, false, false, false, false, false, false, false, false, false, false, false, false, false, false, false, false, false, true, false, false, false, false, false, false, false, false, false, false, false, false]
def i_sha_Step_k1 : List Bool := [false, false, true, false, true, false, false, false, true, false, false, false, false, false, false, false, false, false, false, false, false, false, false, false, false, false, false, false, false, false, false, false, false, false, false, false, true, false, false, false, false, false, false, false, false, false, false, false, false]
def i_sha_Step_j2 : List Bool := [false, false, true, false, true, false, false, false, false, false, false, false, false, false, false, false, false, false, false, false, false, false, false, false, false, false, false, false, false, false, false, false, false, false, false, false, false, false, false, false, false, false, false, false, false, false, false, false, false]
abbrev s_sha_Step_R (t4 t5 : AV) (h : Heap) : St := ⟨[.undef, .undef, .undef, .undef, t4, t5, .undef, .undef, .undef, .undef, .undef, .undef, .undef, .undef, .undef, .undef, .undef, .undef, .undef, .undef, .undef, .undef, .undef, .undef, .undef, .undef, .undef, .undef, .undef, .undef, .undef, .undef, .undef, .undef, .undef, .undef, .undef, .undef, .undef, .undef, .undef, .undef, .undef, .undef, .undef, .undef, .undef, .undef, .undef], h⟩
abbrev s_sha_Step_K0 (t2 t4 t8 t22 t23 t24 : AV) (h : Heap) : St := ⟨[.undef, .undef, t2, .undef, t4, .undef, .undef, .undef, t8, .undef, .undef, .undef, .undef, .undef, .undef, .undef, .undef, .undef, .undef, .undef, .undef, .undef, t22, t23, t24, .undef, .undef, .undef, .undef, .undef, .undef, .undef, .undef, .undef, .undef, .undef, .undef, .undef, .undef, .undef, .undef, .undef, .undef, .undef, .undef, .undef, .undef, .undef, .undef], h⟩
def i_sha_Step_b0 : IR :=
  (.seq
   (.reg [] [
     ⟨(some 25), .bin .plain .lss (.t 24) (.t 23), none, []⟩])
   (.seq
    (.cond (.t 25)
     .skip
     (.exit 0 i_sha_Step_j0))
    (.seq
     (.block 1 i_sha_Step_j1
      (.seq
       (.reg [] [
         ⟨(some 26), .mv (.t 24), none, []⟩,
         ⟨(some 27), .ia 1 (.t 22) (.t 24), none, []⟩,
         ⟨(some 28), .load false 1 (.t 27), none, []⟩,
         ⟨(some 9), .mv (.t 26), none, []⟩,
         ⟨(some 10), .mv (.t 28), none, []⟩])
       (.reg [] [
         ⟨(some 29), .load true 8 (.t 8), none, []⟩,
         ⟨(some 30), .mv (.t 9), none, []⟩,
         ⟨(some 31), .iap 64 1 (.g 1) (.t 30), none, []⟩,
         ⟨(some 32), .load false 1 (.t 31), none, []⟩,
         ⟨(some 33), .mv (.t 10), none, []⟩,
         ⟨(some 34), .qcall n_sha_Round [(.t 29), (.t 32), (.t 33)] [], none, []⟩,
         ⟨none, .store 8 (.t 8) (.t 34), none, []⟩])))
     (.reg [] [
       ⟨(some 35), .bin .plain .add (.t 24) (.k (.int .i64 1)), none, []⟩,
       ⟨(some 24), .mv (.t 35), none, []⟩]))))

abbrev s_sha_Step_J0 (t2 t4 t8 : AV) (h : Heap) : St := ⟨[.undef, .undef, t2, .undef, t4, .undef, .undef, .undef, t8, .undef, .undef, .undef, .undef, .undef, .undef, .undef, .undef, .undef, .undef, .undef, .undef, .undef, .undef, .undef, .undef, .undef, .undef, .undef, .undef, .undef, .undef, .undef, .undef, .undef, .undef, .undef, .undef, .undef, .undef, .undef, .undef, .undef, .undef, .undef, .undef, .undef, .undef, .undef, .undef], h⟩
abbrev s_sha_Step_K1 (t2 t4 t8 t36 : AV) (h : Heap) : St := ⟨[.undef, .undef, t2, .undef, t4, .undef, .undef, .undef, t8, .undef, .undef, .undef, .undef, .undef, .undef, .undef, .undef, .undef, .undef, .undef, .undef, .undef, .undef, .undef, .undef, .undef, .undef, .undef, .undef, .undef, .undef, .undef, .undef, .undef, .undef, .undef, t36, .undef, .undef, .undef, .undef, .undef, .undef, .undef, .undef, .undef, .undef, .undef, .undef], h⟩
def i_sha_Step_b1 : IR :=
  (.seq
   (.reg [] [
     ⟨(some 37), .bin .plain .lss (.t 36) (.k (.int .i64 8)), none, []⟩])
   (.seq
    (.cond (.t 37)
     .skip
     (.exit 2 i_sha_Step_j2))
    (.seq
     (.block 3 i_sha_Step_j3
      (.seq
       (.reg [] [
         ⟨(some 38), .mv (.t 36), none, []⟩,
         ⟨(some 11), .mv (.t 38), none, []⟩])
       (.reg [] [
         ⟨(some 39), .mv (.t 11), none, []⟩,
         ⟨(some 40), .iap 8 1 (.t 2) (.t 39), none, []⟩,
         ⟨(some 41), .load false 1 (.t 40), none, []⟩,
         ⟨(some 42), .mv (.t 11), none, []⟩,
         ⟨(some 43), .iap 8 1 (.t 8) (.t 42), none, []⟩,
         ⟨(some 44), .load false 1 (.t 43), none, []⟩,
         ⟨(some 45), .bin .plain .add (.t 41) (.t 44), none, []⟩,
         ⟨(some 46), .iap 8 1 (.t 2) (.t 39), none, []⟩,
         ⟨none, .store 1 (.t 46) (.t 45), none, []⟩])))
     (.reg [] [
       ⟨(some 47), .bin .plain .add (.t 36) (.k (.int .i64 1)), none, []⟩,
       ⟨(some 36), .mv (.t 47), none, []⟩]))))

abbrev s_sha_Step_J2 (t2 t4 : AV) (h : Heap) : St := ⟨[.undef, .undef, t2, .undef, t4, .undef, .undef, .undef, .undef, .undef, .undef, .undef, .undef, .undef, .undef, .undef, .undef, .undef, .undef, .undef, .undef, .undef, .undef, .undef, .undef, .undef, .undef, .undef, .undef, .undef, .undef, .undef, .undef, .undef, .undef, .undef, .undef, .undef, .undef, .undef, .undef, .undef, .undef, .undef, .undef, .undef, .undef, .undef, .undef], h⟩
/-- heartwood/sha.Step -/
def i_sha_Step : Ev.Fn := ⟨2, 49, 3,
  (.seq
   (.reg [] [
     ⟨(some 2), .box 0 8 (.t 0), none, []⟩,
     ⟨(some 4), .new 1 [(.int .u32 0), (.int .u32 0), (.int .u32 0), (.int .u32 0), (.int .u32 0), (.int .u32 0), (.int .u32 0), (.int .u32 0)], none, []⟩,
     ⟨(some 5), .mv (.k .nilIface), none, []⟩])
   (.seq
    (.reg [] [
      ⟨(some 13), .cn (.t 1), none, []⟩,
      ⟨(some 14), .qcall n_sha_Words [(.t 13)] [], none, []⟩,
      ⟨(some 12), .mv (.t 14), none, []⟩,
      ⟨(some 15), .ext 0 (.t 12), none, []⟩,
      ⟨(some 16), .ext 1 (.t 12), none, []⟩,
      ⟨(some 6), .cn (.t 15), none, []⟩,
      ⟨(some 7), .mv (.t 16), none, []⟩])
    (.seq
     (.seq
      (.reg [] [
        ⟨(some 17), .mv (.t 7), none, []⟩,
        ⟨(some 18), .bin (.iface ty_api_Code true) .neq (.t 17) (.k .nilIface), none, []⟩])
      (.cond (.t 18)
       (.seq
        (.reg [] [
          ⟨(some 19), .build [(.int .u32 0), (.int .u32 0), (.int .u32 0), (.int .u32 0), (.int .u32 0), (.int .u32 0), (.int .u32 0), (.int .u32 0)] [], none, []⟩,
          ⟨(some 20), .mv (.t 7), none, []⟩,
          ⟨none, .store 8 (.t 4) (.t 19), none, []⟩,
          ⟨(some 5), .mv (.t 20), none, []⟩])
        (.ret i_sha_Step_r))
       .skip))
     (.seq
      (.reg [] [
        ⟨(some 21), .load true 8 (.t 2), none, []⟩,
        ⟨(some 8), .new 2 [(.int .u32 0), (.int .u32 0), (.int .u32 0), (.int .u32 0), (.int .u32 0), (.int .u32 0), (.int .u32 0), (.int .u32 0)], none, []⟩,
        ⟨none, .store 8 (.t 8) (.t 21), none, []⟩])
      (.seq
       (.seq
        (.reg [] [
          ⟨(some 22), .cn (.t 6), none, []⟩,
          ⟨(some 23), .len false (.t 22), none, []⟩,
          ⟨(some 24), .mv (.k (.int .i64 0)), none, []⟩])
        (.block 0 i_sha_Step_j0
         (.loop i_sha_Step_k0 i_sha_Step_b0)))
       (.seq
        (.seq
         (.reg [] [
           ⟨(some 36), .mv (.k (.int .i64 0)), none, []⟩])
         (.block 2 i_sha_Step_j2
          (.loop i_sha_Step_k1 i_sha_Step_b1)))
        (.seq
         (.reg [] [
           ⟨(some 48), .load true 8 (.t 2), none, []⟩,
           ⟨none, .store 8 (.t 4) (.t 48), none, []⟩,
           ⟨(some 5), .mv (.k .nilIface), none, []⟩])
         (.ret i_sha_Step_r)))))))),
  [.cell 4 true 8, .tmp 5], [], false, []⟩

def i_sha_Words_r : List Bool := [false, false, true, true, false, false, false, false, false, false, false, false, false, false, false, false, false, false, false, false, false, false, false, false, false, false, false, false, false, false, false, false, false, false, false, false, false, false, false, false, false, false, false, false, false, false, false, false, false, false, false, false, false, false, false, false, false, false, false, false, false, false, false, false, false, false, false, false, false, false, false, false, false, false, false, false, false, false, false, false, false, false, false, false, false, false, false]
def i_sha_Words_j1 : List Bool := [false, false, false, false, true, false, false, false, false, false, false, false, false, false, false, false, false, true, true, true, false, false, false, false, false, false, false, false, false, false, false, false, false, false, false, false, false, false, false, false, false, false, false, false, false, false, false, false, false, false, false, false, false, false, false, false, false, false, false, false, false, false, false, false, false, false, false, false, false, false, false, false, false, false, false, false, false, false, false, false, false, false, false, false, false, false, false]
def i_sha_Words_k0 : List Bool := [false, false, false, false, true, false, false, false, false, false, false, false, false, false, false, false, false, true, true, true, false, false, false, false, false, false, false, false, false, false, false, false, false, false, false, false, false, false, false, false, false, false, false, false, false, false, false, false, false, false, false, false, false, false, false, false, false, false, false, false, false, false, false, false, false, false, false, false, false, false, false, false, false, false, false, false, false, false, false, false, false, false, false, false, false, false, false]
def i_sha_Words_j0 : List Bool := [false, false, false, false, true, false, false, false, false, false, false, false, false, false, false, false, false, false, false, false, false, false, false, false, false, false, false, false, false, false, false, false, false, false, false, false, false, false, false, false, false, false, false, false, false, false, false, false, false, false, false, false, false, false, false, false, false, false, false, false, false, false, false, false, false, false, false, false, false, false, false, false, false, false, false, false, false, false, false, false, false, false, false, false, false, false, false]
def i_sha_Words_j3 : List Bool := [false, false, false, false, true, false, false, true, false, false, false, false, false, false, false, false, false, false, false, false, false, false, false, false, false, false, false, false, false, false, false, false, false, false, false, false, false, false, false, false, false, false, false, false, false, false, false, false, false, false, false, false, false, false, false, false, false, false, false, false, false, false, false, false, false, false, false, false, false, false, false, false, false, false, false, false, false, false, false, false, false, false, false, false, false, false, false]
def i_sha_Words_k1 : List Bool := [false, false, false, false, true, false, false, true, false, false, false, false, false, false, false, false, false, false, false, false, false, false, false, false, false, false, false, false, false, false, false, false, false, false, false, false, false, false, false, false, false, false, false, false, false, false, false, false, false, false, false, false, false, false, false, false, false, false, false, false, false, false, false, false, false, false, false, false, false, false, false, false, false, false, false, false, false, false, false, false, false, false, false, false, false, false, false]
def i_sha_Words_j2 : List Bool := [false, false, false, false, true, false, false, false, false, false, false, false, false, false, false, false, false, false, false, false, false, false, false, false, false, false, false, false, false, false, false, false, false, false, false, false, false, false, false, false, false, false, false, false, false, false, false, false, false, false, false, false, false, false, false, false, false, false, false, false, false, false, false, false, false, false, false, false, false, false, false, false, false, false, false, false, false, false, false, false, false, false, false, false, false, false, false]
abbrev s_sha_Words_R (t2 t3 : AV) (h : Heap) : St := ⟨[.undef, .undef, t2, t3, .undef, .undef, .undef, .undef, .undef, .undef, .undef, .undef, .undef, .undef, .undef, .undef, .undef, .undef, .undef, .undef, .undef, .undef, .undef, .undef, .undef, .undef, .undef, .undef, .undef, .undef, .undef, .undef, .undef, .undef, .undef, .undef, .undef, .undef, .undef, .undef, .undef, .undef, .undef, .undef, .undef, .undef, .undef, .undef, .undef, .undef, .undef, .undef, .undef, .undef, .undef, .undef, .undef, .undef, .undef, .undef, .undef, .undef, .undef, .undef, .undef, .undef, .undef, .undef, .undef, .undef, .undef, .undef, .undef, .undef, .undef, .undef, .undef, .undef, .undef, .undef, .undef, .undef, .undef, .undef, .undef, .undef, .undef], h⟩
abbrev s_sha_Words_K0 (t4 t17 t18 t19 : AV) (h : Heap) : St := ⟨[.undef, .undef, .undef, .undef, t4, .undef, .undef, .undef, .undef, .undef, .undef, .undef, .undef, .undef, .undef, .undef, .undef, t17, t18, t19, .undef, .undef, .undef, .undef, .undef, .undef, .undef, .undef, .undef, .undef, .undef, .undef, .undef, .undef, .undef, .undef, .undef, .undef, .undef, .undef, .undef, .undef, .undef, .undef, .undef, .undef, .undef, .undef, .undef, .undef, .undef, .undef, .undef, .undef, .undef, .undef, .undef, .undef, .undef, .undef, .undef, .undef, .undef, .undef, .undef, .undef, .undef, .undef, .undef, .undef, .undef, .undef, .undef, .undef, .undef, .undef, .undef, .undef, .undef, .undef, .undef, .undef, .undef, .undef, .undef, .undef, .undef], h⟩
def i_sha_Words_b0 : IR :=
  (.seq
   (.reg [] [
     ⟨(some 20), .bin .plain .lss (.t 19) (.t 18), none, []⟩])
   (.seq
    (.cond (.t 20)
     .skip
     (.exit 0 i_sha_Words_j0))
    (.seq
     (.block 1 i_sha_Words_j1
      (.seq
       (.reg [] [
         ⟨(some 21), .mv (.t 19), none, []⟩,
         ⟨(some 22), .ia 1 (.t 17) (.t 19), none, []⟩,
         ⟨(some 23), .load false 1 (.t 22), none, []⟩,
         ⟨(some 5), .mv (.t 21), none, []⟩,
         ⟨(some 6), .mv (.t 23), none, []⟩])
       (.reg [] [
         ⟨(some 24), .mv (.t 4), none, []⟩,
         ⟨(some 25), .mv (.t 5), none, []⟩,
         ⟨(some 26), .bin .plain .quo (.t 25) (.k (.int .i64 4)), none, []⟩,
         ⟨(some 27), .cn (.t 4), none, []⟩,
         ⟨(some 28), .mv (.t 5), none, []⟩,
         ⟨(some 29), .bin .plain .quo (.t 28) (.k (.int .i64 4)), none, []⟩,
         ⟨(some 30), .ia 1 (.t 27) (.t 29), none, []⟩,
         ⟨(some 31), .load false 1 (.t 30), none, []⟩,
         ⟨(some 32), .bin .plain .shl (.t 31) (.k (.int .u64 8)), none, []⟩,
         ⟨(some 33), .mv (.t 6), none, []⟩,
         ⟨(some 34), .conv .u32 (.t 33), none, []⟩,
         ⟨(some 35), .bin .plain .or (.t 32) (.t 34), none, []⟩,
         ⟨(some 36), .ia 1 (.t 24) (.t 26), none, []⟩,
         ⟨none, .store 1 (.t 36) (.t 35), none, []⟩])))
     (.reg [] [
       ⟨(some 37), .bin .plain .add (.t 19) (.k (.int .i64 1)), none, []⟩,
       ⟨(some 19), .mv (.t 37), none, []⟩]))))

abbrev s_sha_Words_J0 (t4 : AV) (h : Heap) : St := ⟨[.undef, .undef, .undef, .undef, t4, .undef, .undef, .undef, .undef, .undef, .undef, .undef, .undef, .undef, .undef, .undef, .undef, .undef, .undef, .undef, .undef, .undef, .undef, .undef, .undef, .undef, .undef, .undef, .undef, .undef, .undef, .undef, .undef, .undef, .undef, .undef, .undef, .undef, .undef, .undef, .undef, .undef, .undef, .undef, .undef, .undef, .undef, .undef, .undef, .undef, .undef, .undef, .undef, .undef, .undef, .undef, .undef, .undef, .undef, .undef, .undef, .undef, .undef, .undef, .undef, .undef, .undef, .undef, .undef, .undef, .undef, .undef, .undef, .undef, .undef, .undef, .undef, .undef, .undef, .undef, .undef, .undef, .undef, .undef, .undef, .undef, .undef], h⟩
abbrev s_sha_Words_K1 (t4 t7 : AV) (h : Heap) : St := ⟨[.undef, .undef, .undef, .undef, t4, .undef, .undef, t7, .undef, .undef, .undef, .undef, .undef, .undef, .undef, .undef, .undef, .undef, .undef, .undef, .undef, .undef, .undef, .undef, .undef, .undef, .undef, .undef, .undef, .undef, .undef, .undef, .undef, .undef, .undef, .undef, .undef, .undef, .undef, .undef, .undef, .undef, .undef, .undef, .undef, .undef, .undef, .undef, .undef, .undef, .undef, .undef, .undef, .undef, .undef, .undef, .undef, .undef, .undef, .undef, .undef, .undef, .undef, .undef, .undef, .undef, .undef, .undef, .undef, .undef, .undef, .undef, .undef, .undef, .undef, .undef, .undef, .undef, .undef, .undef, .undef, .undef, .undef, .undef, .undef, .undef, .undef], h⟩
def i_sha_Words_b1 : IR :=
  (.seq
   (.seq
    (.reg [] [
      ⟨(some 38), .mv (.t 7), none, []⟩,
      ⟨(some 39), .bin .plain .lss (.t 38) (.k (.int .i64 64)), none, []⟩])
    (.cond (.t 39)
     .skip
     (.exit 2 i_sha_Words_j2)))
   (.seq
    (.block 3 i_sha_Words_j3
     (.seq
      (.reg [] [
        ⟨(some 42), .cn (.t 4), none, []⟩,
        ⟨(some 43), .mv (.t 7), none, []⟩,
        ⟨(some 44), .bin .plain .sub (.t 43) (.k (.int .i64 15)), none, []⟩,
        ⟨(some 45), .ia 1 (.t 42) (.t 44), none, []⟩,
        ⟨(some 46), .load false 1 (.t 45), none, []⟩,
        ⟨(some 47), .cn (.t 4), none, []⟩,
        ⟨(some 48), .mv (.t 7), none, []⟩,
        ⟨(some 49), .bin .plain .sub (.t 48) (.k (.int .i64 2)), none, []⟩,
        ⟨(some 50), .ia 1 (.t 47) (.t 49), none, []⟩,
        ⟨(some 51), .load false 1 (.t 50), none, []⟩,
        ⟨(some 8), .mv (.t 46), none, []⟩,
        ⟨(some 9), .mv (.t 51), none, []⟩])
      (.seq
       (.reg [] [
         ⟨(some 52), .mv (.t 8), none, []⟩,
         ⟨(some 53), .qcall n_math_bits_RotateLeft32 [(.t 52), (.k (.int .i64 (-7)))] [], none, []⟩,
         ⟨(some 54), .mv (.t 8), none, []⟩,
         ⟨(some 55), .qcall n_math_bits_RotateLeft32 [(.t 54), (.k (.int .i64 (-18)))] [], none, []⟩,
         ⟨(some 56), .bin .plain .xor (.t 53) (.t 55), none, []⟩,
         ⟨(some 57), .mv (.t 8), none, []⟩,
         ⟨(some 58), .bin .plain .shr (.t 57) (.k (.int .u64 3)), none, []⟩,
         ⟨(some 59), .bin .plain .xor (.t 56) (.t 58), none, []⟩,
         ⟨(some 10), .mv (.t 59), none, []⟩])
       (.seq
        (.reg [] [
          ⟨(some 60), .mv (.t 9), none, []⟩,
          ⟨(some 61), .qcall n_math_bits_RotateLeft32 [(.t 60), (.k (.int .i64 (-17)))] [], none, []⟩,
          ⟨(some 62), .mv (.t 9), none, []⟩,
          ⟨(some 63), .qcall n_math_bits_RotateLeft32 [(.t 62), (.k (.int .i64 (-19)))] [], none, []⟩,
          ⟨(some 64), .bin .plain .xor (.t 61) (.t 63), none, []⟩,
          ⟨(some 65), .mv (.t 9), none, []⟩,
          ⟨(some 66), .bin .plain .shr (.t 65) (.k (.int .u64 10)), none, []⟩,
          ⟨(some 67), .bin .plain .xor (.t 64) (.t 66), none, []⟩,
          ⟨(some 11), .mv (.t 67), none, []⟩])
        (.reg [] [
          ⟨(some 68), .mv (.t 4), none, []⟩,
          ⟨(some 69), .mv (.t 7), none, []⟩,
          ⟨(some 70), .cn (.t 4), none, []⟩,
          ⟨(some 71), .mv (.t 7), none, []⟩,
          ⟨(some 72), .bin .plain .sub (.t 71) (.k (.int .i64 16)), none, []⟩,
          ⟨(some 73), .ia 1 (.t 70) (.t 72), none, []⟩,
          ⟨(some 74), .load false 1 (.t 73), none, []⟩,
          ⟨(some 75), .mv (.t 10), none, []⟩,
          ⟨(some 76), .bin .plain .add (.t 74) (.t 75), none, []⟩,
          ⟨(some 77), .cn (.t 4), none, []⟩,
          ⟨(some 78), .mv (.t 7), none, []⟩,
          ⟨(some 79), .bin .plain .sub (.t 78) (.k (.int .i64 7)), none, []⟩,
          ⟨(some 80), .ia 1 (.t 77) (.t 79), none, []⟩,
          ⟨(some 81), .load false 1 (.t 80), none, []⟩,
          ⟨(some 82), .bin .plain .add (.t 76) (.t 81), none, []⟩,
          ⟨(some 83), .mv (.t 11), none, []⟩,
          ⟨(some 84), .bin .plain .add (.t 82) (.t 83), none, []⟩,
          ⟨(some 85), .ia 1 (.t 68) (.t 69), none, []⟩,
          ⟨none, .store 1 (.t 85) (.t 84), none, []⟩])))))
    (.reg [] [
      ⟨(some 40), .mv (.t 7), none, []⟩,
      ⟨(some 41), .bin .plain .add (.t 40) (.k (.int .i64 1)), none, []⟩,
      ⟨(some 7), .mv (.t 41), none, []⟩])))

abbrev s_sha_Words_J2 (t4 : AV) (h : Heap) : St := ⟨[.undef, .undef, .undef, .undef, t4, .undef, .undef, .undef, .undef, .undef, .undef, .undef, .undef, .undef, .undef, .undef, .undef, .undef, .undef, .undef, .undef, .undef, .undef, .undef, .undef, .undef, .undef, .undef, .undef, .undef, .undef, .undef, .undef, .undef, .undef, .undef, .undef, .undef, .undef, .undef, .undef, .undef, .undef, .undef, .undef, .undef, .undef, .undef, .undef, .undef, .undef, .undef, .undef, .undef, .undef, .undef, .undef, .undef, .undef, .undef, .undef, .undef, .undef, .undef, .undef, .undef, .undef, .undef, .undef, .undef, .undef, .undef, .undef, .undef, .undef, .undef, .undef, .undef, .undef, .undef, .undef, .undef, .undef, .undef, .undef, .undef, .undef], h⟩
/-- heartwood/sha.Words -/
def i_sha_Words : Ev.Fn := ⟨1, 87, 1,
  (.seq
   (.reg [] [
     ⟨(some 2), .cn (.k (.slice none 0 0)), none, []⟩,
     ⟨(some 3), .mv (.k .nilIface), none, []⟩])
   (.seq
    (.seq
     (.reg [] [
       ⟨(some 12), .cn (.t 0), none, []⟩,
       ⟨(some 13), .len false (.t 12), none, []⟩,
       ⟨(some 14), .bin .plain .neq (.t 13) (.k (.int .i64 64)), none, []⟩])
     (.cond (.t 14)
      (.seq
       (.reg [] [
         ⟨(some 15), .mki ty_api_Code (.k (.int .i64 1)), none, []⟩,
         ⟨(some 2), .cn (.k (.slice none 0 0)), none, []⟩,
         ⟨(some 3), .mv (.t 15), none, []⟩])
       (.ret i_sha_Words_r))
      .skip))
    (.seq
     (.reg [] [
       ⟨(some 16), .make 0 ty_uint32 1 4 [(.int .u32 0)] (.k (.int .i64 64)) (.k (.int .i64 64)), none, []⟩,
       ⟨(some 4), .mv (.t 16), none, []⟩])
     (.seq
      (.seq
       (.reg [] [
         ⟨(some 17), .cn (.t 0), none, []⟩,
         ⟨(some 18), .len false (.t 17), none, []⟩,
         ⟨(some 19), .mv (.k (.int .i64 0)), none, []⟩])
       (.block 0 i_sha_Words_j0
        (.loop i_sha_Words_k0 i_sha_Words_b0)))
      (.seq
       (.seq
        (.reg [] [
          ⟨(some 7), .mv (.k (.int .i64 16)), none, []⟩])
        (.block 2 i_sha_Words_j2
         (.loop i_sha_Words_k1 i_sha_Words_b1)))
       (.seq
        (.reg [] [
          ⟨(some 86), .cn (.t 4), none, [4]⟩,
          ⟨(some 2), .cn (.t 86), none, [86]⟩,
          ⟨(some 3), .mv (.k .nilIface), none, []⟩])
        (.ret i_sha_Words_r))))))),
  [.tmp 2, .tmp 3], [], false, []⟩

def i_math_bits_RotateLeft32_r : List Bool := [false, false, false, false, true, false, false, false, false, false, false, false, false, false, false, false, false]
/-- math/bits.RotateLeft32 -/
def i_math_bits_RotateLeft32 : Ev.Fn := ⟨2, 17, 0,
  (.seq
   (.reg [] [
     ⟨(some 4), .mv (.k (.int .u32 0)), none, []⟩])
   (.seq
    (.reg [] [
      ⟨(some 6), .mv (.t 1), none, []⟩,
      ⟨(some 7), .conv .u64 (.t 6), none, []⟩,
      ⟨(some 8), .bin .plain .and (.t 7) (.k (.int .u64 31)), none, []⟩,
      ⟨(some 5), .mv (.t 8), none, []⟩])
    (.seq
     (.reg [] [
       ⟨(some 9), .mv (.t 0), none, []⟩,
       ⟨(some 10), .mv (.t 5), none, []⟩,
       ⟨(some 11), .bin .plain .shl (.t 9) (.t 10), none, []⟩,
       ⟨(some 12), .mv (.t 0), none, []⟩,
       ⟨(some 13), .mv (.t 5), none, []⟩,
       ⟨(some 14), .bin .plain .sub (.k (.int .u64 32)) (.t 13), none, []⟩,
       ⟨(some 15), .bin .plain .shr (.t 12) (.t 14), none, []⟩,
       ⟨(some 16), .bin .plain .or (.t 11) (.t 15), none, []⟩,
       ⟨(some 4), .mv (.t 16), none, []⟩])
     (.ret i_math_bits_RotateLeft32_r)))),
  [.tmp 4], [], false, []⟩

def i_sha_Round_r : List Bool := [false, false, false, false, false, false, true, false, false, false, false, false, false, false, false, false, false, false, false, false, false, false, false, false, false, false, false, false, false, false, false, false, false, false, false, false, false, false, false, false, false, false, false, false, false, false, false, false, false, false, false, false, false, false, false, false, false, false, false, false, false, false, false, false, false, false, false, false, false, false, false, false, false, false, false, false, false, false, false, false, false, false, false, false, false]
/-- heartwood/sha.Round -/
def i_sha_Round : Ev.Fn := ⟨3, 85, 2,
  (.seq
   (.reg [] [
     ⟨(some 3), .box 0 8 (.t 0), none, []⟩,
     ⟨(some 6), .new 1 [(.int .u32 0), (.int .u32 0), (.int .u32 0), (.int .u32 0), (.int .u32 0), (.int .u32 0), (.int .u32 0), (.int .u32 0)], none, []⟩])
   (.seq
    (.reg [] [
      ⟨(some 15), .iap 8 1 (.t 3) (.k (.int .i64 0)), none, []⟩,
      ⟨(some 16), .load false 1 (.t 15), none, []⟩,
      ⟨(some 17), .iap 8 1 (.t 3) (.k (.int .i64 1)), none, []⟩,
      ⟨(some 18), .load false 1 (.t 17), none, []⟩,
      ⟨(some 19), .iap 8 1 (.t 3) (.k (.int .i64 2)), none, []⟩,
      ⟨(some 20), .load false 1 (.t 19), none, []⟩,
      ⟨(some 21), .iap 8 1 (.t 3) (.k (.int .i64 4)), none, []⟩,
      ⟨(some 22), .load false 1 (.t 21), none, []⟩,
      ⟨(some 23), .iap 8 1 (.t 3) (.k (.int .i64 5)), none, []⟩,
      ⟨(some 24), .load false 1 (.t 23), none, []⟩,
      ⟨(some 25), .iap 8 1 (.t 3) (.k (.int .i64 6)), none, []⟩,
      ⟨(some 26), .load false 1 (.t 25), none, []⟩,
      ⟨(some 7), .mv (.t 16), none, []⟩,
      ⟨(some 8), .mv (.t 18), none, []⟩,
      ⟨(some 9), .mv (.t 20), none, []⟩,
      ⟨(some 10), .mv (.t 22), none, []⟩,
      ⟨(some 11), .mv (.t 24), none, []⟩,
      ⟨(some 12), .mv (.t 26), none, []⟩])
    (.seq
     (.reg [] [
       ⟨(some 27), .iap 8 1 (.t 3) (.k (.int .i64 7)), none, []⟩,
       ⟨(some 28), .load false 1 (.t 27), none, []⟩,
       ⟨(some 29), .mv (.t 10), none, []⟩,
       ⟨(some 30), .qcall n_math_bits_RotateLeft32 [(.t 29), (.k (.int .i64 (-6)))] [], none, []⟩,
       ⟨(some 31), .mv (.t 10), none, []⟩,
       ⟨(some 32), .qcall n_math_bits_RotateLeft32 [(.t 31), (.k (.int .i64 (-11)))] [], none, []⟩,
       ⟨(some 33), .bin .plain .xor (.t 30) (.t 32), none, []⟩,
       ⟨(some 34), .mv (.t 10), none, []⟩,
       ⟨(some 35), .qcall n_math_bits_RotateLeft32 [(.t 34), (.k (.int .i64 (-25)))] [], none, []⟩,
       ⟨(some 36), .bin .plain .xor (.t 33) (.t 35), none, []⟩,
       ⟨(some 37), .bin .plain .add (.t 28) (.t 36), none, []⟩,
       ⟨(some 38), .mv (.t 10), none, []⟩,
       ⟨(some 39), .mv (.t 11), none, []⟩,
       ⟨(some 40), .bin .plain .and (.t 38) (.t 39), none, []⟩,
       ⟨(some 41), .mv (.t 10), none, []⟩,
       ⟨(some 42), .un .xor (.t 41), none, []⟩,
       ⟨(some 43), .mv (.t 12), none, []⟩,
       ⟨(some 44), .bin .plain .and (.t 42) (.t 43), none, []⟩,
       ⟨(some 45), .bin .plain .xor (.t 40) (.t 44), none, []⟩,
       ⟨(some 46), .bin .plain .add (.t 37) (.t 45), none, []⟩,
       ⟨(some 47), .mv (.t 1), none, []⟩,
       ⟨(some 48), .bin .plain .add (.t 46) (.t 47), none, []⟩,
       ⟨(some 49), .mv (.t 2), none, []⟩,
       ⟨(some 50), .bin .plain .add (.t 48) (.t 49), none, []⟩,
       ⟨(some 13), .mv (.t 50), none, []⟩])
     (.seq
      (.reg [] [
        ⟨(some 51), .mv (.t 7), none, []⟩,
        ⟨(some 52), .qcall n_math_bits_RotateLeft32 [(.t 51), (.k (.int .i64 (-2)))] [], none, []⟩,
        ⟨(some 53), .mv (.t 7), none, []⟩,
        ⟨(some 54), .qcall n_math_bits_RotateLeft32 [(.t 53), (.k (.int .i64 (-13)))] [], none, []⟩,
        ⟨(some 55), .bin .plain .xor (.t 52) (.t 54), none, []⟩,
        ⟨(some 56), .mv (.t 7), none, []⟩,
        ⟨(some 57), .qcall n_math_bits_RotateLeft32 [(.t 56), (.k (.int .i64 (-22)))] [], none, []⟩,
        ⟨(some 58), .bin .plain .xor (.t 55) (.t 57), none, []⟩,
        ⟨(some 59), .mv (.t 7), none, []⟩,
        ⟨(some 60), .mv (.t 8), none, []⟩,
        ⟨(some 61), .bin .plain .and (.t 59) (.t 60), none, []⟩,
        ⟨(some 62), .mv (.t 7), none, []⟩,
        ⟨(some 63), .mv (.t 9), none, []⟩,
        ⟨(some 64), .bin .plain .and (.t 62) (.t 63), none, []⟩,
        ⟨(some 65), .bin .plain .xor (.t 61) (.t 64), none, []⟩,
        ⟨(some 66), .mv (.t 8), none, []⟩,
        ⟨(some 67), .mv (.t 9), none, []⟩,
        ⟨(some 68), .bin .plain .and (.t 66) (.t 67), none, []⟩,
        ⟨(some 69), .bin .plain .xor (.t 65) (.t 68), none, []⟩,
        ⟨(some 70), .bin .plain .add (.t 58) (.t 69), none, []⟩,
        ⟨(some 14), .mv (.t 70), none, []⟩])
      (.seq
       (.reg [] [
         ⟨(some 71), .mv (.t 13), none, []⟩,
         ⟨(some 72), .mv (.t 14), none, []⟩,
         ⟨(some 73), .bin .plain .add (.t 71) (.t 72), none, []⟩,
         ⟨(some 74), .mv (.t 7), none, []⟩,
         ⟨(some 75), .mv (.t 8), none, []⟩,
         ⟨(some 76), .mv (.t 9), none, []⟩,
         ⟨(some 77), .iap 8 1 (.t 3) (.k (.int .i64 3)), none, []⟩,
         ⟨(some 78), .load false 1 (.t 77), none, []⟩,
         ⟨(some 79), .mv (.t 13), none, []⟩,
         ⟨(some 80), .bin .plain .add (.t 78) (.t 79), none, []⟩,
         ⟨(some 81), .mv (.t 10), none, []⟩,
         ⟨(some 82), .mv (.t 11), none, []⟩,
         ⟨(some 83), .mv (.t 12), none, []⟩,
         ⟨(some 84), .build [(.int .u32 0), (.int .u32 0), (.int .u32 0), (.int .u32 0), (.int .u32 0), (.int .u32 0), (.int .u32 0), (.int .u32 0)] [(0, 1, (.t 73)), (1, 1, (.t 74)), (2, 1, (.t 75)), (3, 1, (.t 76)), (4, 1, (.t 80)), (5, 1, (.t 81)), (6, 1, (.t 82)), (7, 1, (.t 83))], none, []⟩,
         ⟨none, .store 8 (.t 6) (.t 84), none, []⟩])
       (.ret i_sha_Round_r)))))),
  [.cell 6 true 8], [], false, []⟩

def i_slices_Clone_sl_byte_byte_r : List Bool := [false, false, true, false, false, false, false, false]
/-- slices.Clone[[]byte,byte] -/
def i_slices_Clone_sl_byte_byte : Ev.Fn := ⟨1, 8, 1,
  (.seq
   (.reg [] [
     ⟨(some 2), .cn (.k (.slice none 0 0)), none, []⟩])
   (.seq
    (.seq
     (.reg [] [
       ⟨(some 3), .mv (.t 0), none, []⟩,
       ⟨(some 4), .bin .slice .eql (.t 3) (.k (.slice none 0 0)), none, []⟩])
     (.cond (.t 4)
      (.seq
       (.reg [] [
         ⟨(some 2), .cn (.k (.slice none 0 0)), none, []⟩])
       (.ret i_slices_Clone_sl_byte_byte_r))
      .skip))
    (.seq
     (.reg [] [
       ⟨(some 5), .lit 0 ty_uint8 1 0 [(.int .u8 0)] [], none, []⟩,
       ⟨(some 6), .cn (.t 0), none, []⟩,
       ⟨(some 7), .app 0 ty_uint8 1 1 (.t 5) (.t 6), none, []⟩,
       ⟨(some 2), .cn (.t 7), none, [7]⟩])
     (.ret i_slices_Clone_sl_byte_byte_r)))),
  [.tmp 2], [], true, []⟩

def i_digest_Value_r : List Bool := [false, false, true, false, false, false]
/-- heartwood/digest.Value -/
def i_digest_Value : Ev.Fn := ⟨1, 6, 1,
  (.seq
   (.reg [] [
     ⟨(some 2), .cn (.k (.slice none 0 0)), none, []⟩])
   (.seq
    (.reg [] [
      ⟨(some 3), .lit 0 ty_uint8 1 1 [(.int .u8 0)] [(0, (.k (.int .u8 0)))], none, []⟩,
      ⟨(some 4), .cn (.t 0), none, []⟩,
      ⟨(some 5), .app 0 ty_uint8 1 1 (.t 3) (.t 4), none, []⟩,
      ⟨(some 2), .cn (.t 5), none, [5]⟩])
    (.ret i_digest_Value_r))),
  [.tmp 2], [], false, []⟩

def i_digest_Pair_r : List Bool := [false, false, false, false, false, false, true, true, false, false, false, false, false, false, false, false, false, false, false, false, false, false, false, false]
/-- heartwood/digest.Pair -/
def i_digest_Pair : Ev.Fn := ⟨3, 24, 0,
  (.seq
   (.reg [] [
     ⟨(some 6), .cn (.k (.slice none 0 0)), none, []⟩,
     ⟨(some 7), .mv (.k .nilIface), none, []⟩])
   (.seq
    (.seq
     (.reg [] [
       ⟨(some 8), .mv (.t 0), none, []⟩,
       ⟨(some 9), .qcall n_digest_width [(.t 8)] [], none, []⟩,
       ⟨(some 10), .un .not (.t 9), none, []⟩,
       ⟨(some 11), .mv (.t 10), none, []⟩,
       ⟨(some 12), .cn (.t 2), (some (11, false)), []⟩,
       ⟨(some 13), .len false (.t 12), (some (11, false)), []⟩,
       ⟨(some 14), .mv (.t 0), (some (11, false)), []⟩,
       ⟨(some 15), .bin .plain .neq (.t 13) (.t 14), (some (11, false)), []⟩,
       ⟨(some 16), .pick (.t 11) (.k (.bool true)) (.t 15), none, []⟩])
     (.cond (.t 16)
      (.seq
       (.reg [] [
         ⟨(some 17), .mki ty_api_Code (.k (.int .i64 1)), none, []⟩,
         ⟨(some 6), .cn (.k (.slice none 0 0)), none, []⟩,
         ⟨(some 7), .mv (.t 17), none, []⟩])
       (.ret i_digest_Pair_r))
      .skip))
    (.seq
     (.reg [] [
       ⟨(some 18), .litd 1 1 [(.int .u8 0)] [(0, (.k (.int .u8 1)))], none, []⟩,
       ⟨(some 19), .cn (.t 1), none, []⟩,
       ⟨(some 20), .qcall n_coder_Bytes [(.t 19)] [], none, []⟩,
       ⟨(some 21), .cn (.t 2), none, []⟩,
       ⟨(some 22), .litd 1 3 [(.slice none 0 0)] [(0, (.t 18)), (1, (.t 20)), (2, (.t 21))], none, []⟩,
       ⟨(some 23), .qcall n_slices_Concat_sl_byte_byte [(.t 22)] [], none, []⟩,
       ⟨(some 6), .cn (.t 23), none, []⟩,
       ⟨(some 7), .mv (.k .nilIface), none, []⟩])
     (.ret i_digest_Pair_r)))),
  [.tmp 6, .tmp 7], [], false, []⟩

def i_coder_Bytes_r : List Bool := [false, false, true, false, false, false, false, false, false]
/-- heartwood/coder.Bytes -/
def i_coder_Bytes : Ev.Fn := ⟨1, 9, 2,
  (.seq
   (.reg [] [
     ⟨(some 2), .cn (.k (.slice none 0 0)), none, []⟩])
   (.seq
    (.reg [] [
      ⟨(some 3), .cn (.t 0), none, []⟩,
      ⟨(some 4), .len false (.t 3), none, []⟩,
      ⟨(some 5), .conv .u64 (.t 4), none, []⟩,
      ⟨(some 6), .qcall n_coder_Number [(.t 5)] [0], none, []⟩,
      ⟨(some 7), .cn (.t 0), none, []⟩,
      ⟨(some 8), .app 1 ty_uint8 1 1 (.t 6) (.t 7), none, []⟩,
      ⟨(some 2), .cn (.t 8), none, [8]⟩])
    (.ret i_coder_Bytes_r))),
  [.tmp 2], [], false, []⟩

def i_coder_Number_r : List Bool := [false, false, true, false, false, false, false, false, false, false, false, false, false, false, false, false, false, false, false, false, false, false, false, false, false, false, false, false, false, false, false, false, false, false, false, false, false, false, false, false, false, false, false]
def i_coder_Number_j1 : List Bool := [true, false, false, true, false, false, false, false, false, false, false, false, false, false, false, false, false, false, false, false, false, false, false, false, false, false, false, false, false, false, false, false, false, false, false, false, false, false, false, false, false, false, false]
def i_coder_Number_k0 : List Bool := [true, false, false, true, false, false, false, false, false, false, false, false, false, false, false, false, false, false, false, false, false, false, false, false, false, false, false, false, false, false, false, false, false, false, false, false, false, false, false, false, false, false, false]
def i_coder_Number_j0 : List Bool := [true, false, false, true, false, false, false, false, false, false, false, false, false, false, false, false, false, false, false, false, false, false, false, false, false, false, false, false, false, false, false, false, false, false, false, false, false, false, false, false, false, false, false]
def i_coder_Number_j3 : List Bool := [true, false, false, true, true, false, false, false, false, false, false, false, false, false, false, false, false, false, false, false, false, false, false, false, false, false, true, true, false, false, false, false, false, false, false, false, false, false, false, false, false, false, false]
def i_coder_Number_k1 : List Bool := [true, false, false, true, true, false, false, false, false, false, false, false, false, false, false, false, false, false, false, false, false, false, false, false, false, false, true, true, false, false, false, false, false, false, false, false, false, false, false, false, false, false, false]
def i_coder_Number_j2 : List Bool := [false, false, false, false, true, false, false, false, false, false, false, false, false, false, false, false, false, false, false, false, false, false, false, false, false, false, false, false, false, false, false, false, false, false, false, false, false, false, false, false, false, false, false]
abbrev s_coder_Number_R (t2 : AV) (h : Heap) : St := ⟨[.undef, .undef, t2, .undef, .undef, .undef, .undef, .undef, .undef, .undef, .undef, .undef, .undef, .undef, .undef, .undef, .undef, .undef, .undef, .undef, .undef, .undef, .undef, .undef, .undef, .undef, .undef, .undef, .undef, .undef, .undef, .undef, .undef, .undef, .undef, .undef, .undef, .undef, .undef, .undef, .undef, .undef, .undef], h⟩
abbrev s_coder_Number_K0 (t0 t3 : AV) (h : Heap) : St := ⟨[t0, .undef, .undef, t3, .undef, .undef, .undef, .undef, .undef, .undef, .undef, .undef, .undef, .undef, .undef, .undef, .undef, .undef, .undef, .undef, .undef, .undef, .undef, .undef, .undef, .undef, .undef, .undef, .undef, .undef, .undef, .undef, .undef, .undef, .undef, .undef, .undef, .undef, .undef, .undef, .undef, .undef, .undef], h⟩
def i_coder_Number_b0 : IR :=
  (.seq
   (.seq
    (.reg [] [
      ⟨(some 11), .mv (.t 3), none, []⟩,
      ⟨(some 12), .bin .plain .lss (.t 11) (.k (.int .i64 8)), none, []⟩,
      ⟨(some 13), .mv (.t 12), none, []⟩,
      ⟨(some 14), .mv (.t 0), (some (13, true)), []⟩,
      ⟨(some 15), .mv (.t 3), (some (13, true)), []⟩,
      ⟨(some 16), .bin .plain .mul (.k (.int .i64 8)) (.t 15), (some (13, true)), []⟩,
      ⟨(some 17), .bin .plain .shr (.t 14) (.t 16), (some (13, true)), []⟩,
      ⟨(some 18), .bin .plain .gtr (.t 17) (.k (.int .u64 0)), (some (13, true)), []⟩,
      ⟨(some 19), .pick (.t 13) (.t 18) (.k (.bool false)), none, []⟩])
    (.cond (.t 19)
     .skip
     (.exit 0 i_coder_Number_j0)))
   (.block 1 i_coder_Number_j1
    (.reg [] [
      ⟨(some 20), .mv (.t 3), none, []⟩,
      ⟨(some 21), .bin .plain .add (.t 20) (.k (.int .i64 1)), none, []⟩,
      ⟨(some 3), .mv (.t 21), none, []⟩])))

abbrev s_coder_Number_J0 (t0 t3 : AV) (h : Heap) : St := ⟨[t0, .undef, .undef, t3, .undef, .undef, .undef, .undef, .undef, .undef, .undef, .undef, .undef, .undef, .undef, .undef, .undef, .undef, .undef, .undef, .undef, .undef, .undef, .undef, .undef, .undef, .undef, .undef, .undef, .undef, .undef, .undef, .undef, .undef, .undef, .undef, .undef, .undef, .undef, .undef, .undef, .undef, .undef], h⟩
abbrev s_coder_Number_K1 (t0 t3 t4 t26 t27 : AV) (h : Heap) : St := ⟨[t0, .undef, .undef, t3, t4, .undef, .undef, .undef, .undef, .undef, .undef, .undef, .undef, .undef, .undef, .undef, .undef, .undef, .undef, .undef, .undef, .undef, .undef, .undef, .undef, .undef, t26, t27, .undef, .undef, .undef, .undef, .undef, .undef, .undef, .undef, .undef, .undef, .undef, .undef, .undef, .undef, .undef], h⟩
def i_coder_Number_b1 : IR :=
  (.seq
   (.reg [] [
     ⟨(some 28), .bin .plain .lss (.t 27) (.t 26), none, []⟩])
   (.seq
    (.cond (.t 28)
     .skip
     (.exit 2 i_coder_Number_j2))
    (.seq
     (.block 3 i_coder_Number_j3
      (.seq
       (.reg [] [
         ⟨(some 29), .mv (.t 27), none, []⟩,
         ⟨(some 5), .mv (.t 29), none, []⟩])
       (.reg [] [
         ⟨(some 30), .mv (.t 4), none, []⟩,
         ⟨(some 31), .mv (.t 0), none, []⟩,
         ⟨(some 32), .mv (.t 3), none, []⟩,
         ⟨(some 33), .bin .plain .sub (.t 32) (.k (.int .i64 1)), none, []⟩,
         ⟨(some 34), .mv (.t 5), none, []⟩,
         ⟨(some 35), .bin .plain .sub (.t 33) (.t 34), none, []⟩,
         ⟨(some 36), .bin .plain .mul (.k (.int .i64 8)) (.t 35), none, []⟩,
         ⟨(some 37), .bin .plain .shr (.t 31) (.t 36), none, []⟩,
         ⟨(some 38), .conv .u8 (.t 37), none, []⟩,
         ⟨(some 39), .litd 1 1 [(.int .u8 0)] [(0, (.t 38))], none, []⟩,
         ⟨(some 40), .app 0 ty_uint8 1 1 (.t 30) (.t 39), none, []⟩,
         ⟨(some 4), .mv (.t 40), none, []⟩])))
     (.reg [] [
       ⟨(some 41), .bin .plain .add (.t 27) (.k (.int .i64 1)), none, []⟩,
       ⟨(some 27), .mv (.t 41), none, []⟩]))))

abbrev s_coder_Number_J2 (t4 : AV) (h : Heap) : St := ⟨[.undef, .undef, .undef, .undef, t4, .undef, .undef, .undef, .undef, .undef, .undef, .undef, .undef, .undef, .undef, .undef, .undef, .undef, .undef, .undef, .undef, .undef, .undef, .undef, .undef, .undef, .undef, .undef, .undef, .undef, .undef, .undef, .undef, .undef, .undef, .undef, .undef, .undef, .undef, .undef, .undef, .undef, .undef], h⟩
/-- heartwood/coder.Number -/
def i_coder_Number : Ev.Fn := ⟨1, 43, 1,
  (.seq
   (.reg [] [
     ⟨(some 2), .mv (.k (.slice none 0 0)), none, []⟩])
   (.seq
    (.seq
     (.reg [] [
       ⟨(some 6), .mv (.t 0), none, []⟩,
       ⟨(some 7), .bin .plain .leq (.t 6) (.k (.int .u64 247)), none, []⟩])
     (.cond (.t 7)
      (.seq
       (.reg [] [
         ⟨(some 8), .mv (.t 0), none, []⟩,
         ⟨(some 9), .conv .u8 (.t 8), none, []⟩,
         ⟨(some 10), .lit 0 ty_uint8 1 1 [(.int .u8 0)] [(0, (.t 9))], none, []⟩,
         ⟨(some 2), .mv (.t 10), none, []⟩])
       (.ret i_coder_Number_r))
      .skip))
    (.seq
     (.reg [] [
       ⟨(some 3), .mv (.k (.int .i64 1)), none, []⟩])
     (.seq
      (.block 0 i_coder_Number_j0
       (.loop i_coder_Number_k0 i_coder_Number_b0))
      (.seq
       (.reg [] [
         ⟨(some 22), .mv (.t 3), none, []⟩,
         ⟨(some 23), .bin .plain .add (.k (.int .i64 247)) (.t 22), none, []⟩,
         ⟨(some 24), .conv .u8 (.t 23), none, []⟩,
         ⟨(some 25), .lit 0 ty_uint8 1 1 [(.int .u8 0)] [(0, (.t 24))], none, []⟩,
         ⟨(some 4), .mv (.t 25), none, []⟩])
       (.seq
        (.seq
         (.reg [] [
           ⟨(some 26), .mv (.t 3), none, []⟩,
           ⟨(some 27), .mv (.k (.int .i64 0)), none, []⟩])
         (.block 2 i_coder_Number_j2
          (.loop i_coder_Number_k1 i_coder_Number_b1)))
        (.seq
         (.reg [] [
           ⟨(some 42), .mv (.t 4), none, []⟩,
           ⟨(some 2), .mv (.t 42), none, []⟩])
         (.ret i_coder_Number_r)))))))),
  [.tmp 2], [true], false, []⟩

def i_slices_Concat_sl_byte_byte_r : List Bool := [false, false, true, false, false, false, false, false, false, false, false, false, false, false, false, false, false, false, false, false, false, false, false, false, false, false, false, false, false, false, false, false, false, false, false, false]
def i_slices_Concat_sl_byte_byte_j1 : List Bool := [true, false, false, true, false, false, false, false, false, true, true, true, false, false, false, false, false, false, false, false, false, false, false, false, false, false, false, false, false, false, false, false, false, false, false, false]
def i_slices_Concat_sl_byte_byte_k0 : List Bool := [true, false, false, true, false, false, false, false, false, true, true, true, false, false, false, false, false, false, false, false, false, false, false, false, false, false, false, false, false, false, false, false, false, false, false, false]
def i_slices_Concat_sl_byte_byte_j0 : List Bool := [true, false, false, true, false, false, false, false, false, false, false, false, false, false, false, false, false, false, false, false, false, false, false, false, false, false, false, false, false, false, false, false, false, false, false, false]
def i_slices_Concat_sl_byte_byte_j3 : List Bool := [false, false, false, false, false, false, true, false, false, false, false, false, false, false, false, false, false, false, false, false, false, false, false, false, false, true, true, true, false, false, false, false, false, false, false, false]
def i_slices_Concat_sl_byte_byte_k1 : List Bool := [false, false, false, false, false, false, true, false, false, false, false, false, false, false, false, false, false, false, false, false, false, false, false, false, false, true, true, true, false, false, false, false, false, false, false, false]
def i_slices_Concat_sl_byte_byte_j2 : List Bool := [false, false, false, false, false, false, true, false, false, false, false, false, false, false, false, false, false, false, false, false, false, false, false, false, false, false, false, false, false, false, false, false, false, false, false, false]
abbrev s_slices_Concat_sl_byte_byte_R (t2 : AV) (h : Heap) : St := ⟨[.undef, .undef, t2, .undef, .undef, .undef, .undef, .undef, .undef, .undef, .undef, .undef, .undef, .undef, .undef, .undef, .undef, .undef, .undef, .undef, .undef, .undef, .undef, .undef, .undef, .undef, .undef, .undef, .undef, .undef, .undef, .undef, .undef, .undef, .undef, .undef], h⟩
abbrev s_slices_Concat_sl_byte_byte_K0 (t0 t3 t9 t10 t11 : AV) (h : Heap) : St := ⟨[t0, .undef, .undef, t3, .undef, .undef, .undef, .undef, .undef, t9, t10, t11, .undef, .undef, .undef, .undef, .undef, .undef, .undef, .undef, .undef, .undef, .undef, .undef, .undef, .undef, .undef, .undef, .undef, .undef, .undef, .undef, .undef, .undef, .undef, .undef], h⟩
def i_slices_Concat_sl_byte_byte_b0 : IR :=
  (.seq
   (.reg [] [
     ⟨(some 12), .bin .plain .lss (.t 11) (.t 10), none, []⟩])
   (.seq
    (.cond (.t 12)
     .skip
     (.exit 0 i_slices_Concat_sl_byte_byte_j0))
    (.seq
     (.block 1 i_slices_Concat_sl_byte_byte_j1
      (.seq
       (.reg [] [
         ⟨(some 13), .ia 1 (.t 9) (.t 11), none, []⟩,
         ⟨(some 14), .load false 1 (.t 13), none, []⟩,
         ⟨(some 5), .cn (.t 14), none, []⟩])
       (.seq
        (.reg [] [
          ⟨(some 15), .mv (.t 3), none, []⟩,
          ⟨(some 16), .cn (.t 5), none, []⟩,
          ⟨(some 17), .len false (.t 16), none, []⟩,
          ⟨(some 18), .bin .plain .add (.t 15) (.t 17), none, []⟩,
          ⟨(some 3), .mv (.t 18), none, []⟩])
        (.seq
         (.reg [] [
           ⟨(some 19), .mv (.t 3), none, []⟩,
           ⟨(some 20), .bin .plain .lss (.t 19) (.k (.int .i64 0)), none, []⟩])
         (.cond (.t 20)
          (.reg [] [
            ⟨(some 21), .mki ty_string (.k (.string ⟨#[108, 101, 110, 32, 111, 117, 116, 32, 111, 102, 32, 114, 97, 110, 103, 101]⟩)), none, []⟩,
            ⟨none, .trap, none, []⟩])
          .skip)))))
     (.reg [] [
       ⟨(some 22), .bin .plain .add (.t 11) (.k (.int .i64 1)), none, []⟩,
       ⟨(some 11), .mv (.t 22), none, []⟩]))))

abbrev s_slices_Concat_sl_byte_byte_J0 (t0 t3 : AV) (h : Heap) : St := ⟨[t0, .undef, .undef, t3, .undef, .undef, .undef, .undef, .undef, .undef, .undef, .undef, .undef, .undef, .undef, .undef, .undef, .undef, .undef, .undef, .undef, .undef, .undef, .undef, .undef, .undef, .undef, .undef, .undef, .undef, .undef, .undef, .undef, .undef, .undef, .undef], h⟩
abbrev s_slices_Concat_sl_byte_byte_K1 (t6 t25 t26 t27 : AV) (h : Heap) : St := ⟨[.undef, .undef, .undef, .undef, .undef, .undef, t6, .undef, .undef, .undef, .undef, .undef, .undef, .undef, .undef, .undef, .undef, .undef, .undef, .undef, .undef, .undef, .undef, .undef, .undef, t25, t26, t27, .undef, .undef, .undef, .undef, .undef, .undef, .undef, .undef], h⟩
def i_slices_Concat_sl_byte_byte_b1 : IR :=
  (.seq
   (.reg [] [
     ⟨(some 28), .bin .plain .lss (.t 27) (.t 26), none, []⟩])
   (.seq
    (.cond (.t 28)
     .skip
     (.exit 2 i_slices_Concat_sl_byte_byte_j2))
    (.seq
     (.block 3 i_slices_Concat_sl_byte_byte_j3
      (.seq
       (.reg [] [
         ⟨(some 29), .ia 1 (.t 25) (.t 27), none, []⟩,
         ⟨(some 30), .load false 1 (.t 29), none, []⟩,
         ⟨(some 8), .cn (.t 30), none, []⟩])
       (.reg [] [
         ⟨(some 31), .mv (.t 6), none, []⟩,
         ⟨(some 32), .cn (.t 8), none, []⟩,
         ⟨(some 33), .app 1 ty_uint8 1 1 (.t 31) (.t 32), none, []⟩,
         ⟨(some 6), .mv (.t 33), none, []⟩])))
     (.reg [] [
       ⟨(some 34), .bin .plain .add (.t 27) (.k (.int .i64 1)), none, []⟩,
       ⟨(some 27), .mv (.t 34), none, []⟩]))))

abbrev s_slices_Concat_sl_byte_byte_J2 (t6 : AV) (h : Heap) : St := ⟨[.undef, .undef, .undef, .undef, .undef, .undef, t6, .undef, .undef, .undef, .undef, .undef, .undef, .undef, .undef, .undef, .undef, .undef, .undef, .undef, .undef, .undef, .undef, .undef, .undef, .undef, .undef, .undef, .undef, .undef, .undef, .undef, .undef, .undef, .undef, .undef], h⟩
/-- slices.Concat[[]byte,byte] -/
def i_slices_Concat_sl_byte_byte : Ev.Fn := ⟨1, 36, 2,
  (.seq
   (.reg [] [
     ⟨(some 2), .cn (.k (.slice none 0 0)), none, []⟩])
   (.seq
    (.reg [] [
      ⟨(some 3), .mv (.k (.int .i64 0)), none, []⟩])
    (.seq
     (.seq
      (.reg [] [
        ⟨(some 9), .cn (.t 0), none, []⟩,
        ⟨(some 10), .len false (.t 9), none, []⟩,
        ⟨(some 11), .mv (.k (.int .i64 0)), none, []⟩])
      (.block 0 i_slices_Concat_sl_byte_byte_j0
       (.loop i_slices_Concat_sl_byte_byte_k0 i_slices_Concat_sl_byte_byte_b0)))
     (.seq
      (.reg [] [
        ⟨(some 23), .mv (.t 3), none, []⟩,
        ⟨(some 24), .qcall n_slices_Grow_sl_byte_byte [(.k (.slice none 0 0)), (.t 23)] [0], none, []⟩,
        ⟨(some 6), .mv (.t 24), none, []⟩])
      (.seq
       (.seq
        (.reg [] [
          ⟨(some 25), .cn (.t 0), none, []⟩,
          ⟨(some 26), .len false (.t 25), none, []⟩,
          ⟨(some 27), .mv (.k (.int .i64 0)), none, []⟩])
        (.block 2 i_slices_Concat_sl_byte_byte_j2
         (.loop i_slices_Concat_sl_byte_byte_k1 i_slices_Concat_sl_byte_byte_b1)))
       (.seq
        (.reg [] [
          ⟨(some 35), .cn (.t 6), none, [6]⟩,
          ⟨(some 2), .cn (.t 35), none, [35]⟩])
        (.ret i_slices_Concat_sl_byte_byte_r))))))),
  [.tmp 2], [], false, []⟩

def i_slices_Grow_sl_byte_byte_r : List Bool := [false, false, false, false, true, false, false, false, false, false, false, false, false, false, false, false, false, false, false, false, false, false, false, false, false, false, false]
/-- slices.Grow[[]byte,byte] -/
def i_slices_Grow_sl_byte_byte : Ev.Fn := ⟨2, 27, 3,
  (.seq
   (.reg [] [
     ⟨(some 4), .mv (.k (.slice none 0 0)), none, []⟩])
   (.seq
    (.seq
     (.reg [] [
       ⟨(some 5), .mv (.t 1), none, []⟩,
       ⟨(some 6), .bin .plain .lss (.t 5) (.k (.int .i64 0)), none, []⟩])
     (.cond (.t 6)
      (.reg [] [
        ⟨(some 7), .mki ty_string (.k (.string ⟨#[99, 97, 110, 110, 111, 116, 32, 98, 101, 32, 110, 101, 103, 97, 116, 105, 118, 101]⟩)), none, []⟩,
        ⟨none, .trap, none, []⟩])
      .skip))
    (.seq
     (.seq
      (.reg [] [
        ⟨(some 8), .mv (.t 1), none, []⟩,
        ⟨(some 9), .mv (.t 0), none, []⟩,
        ⟨(some 10), .capn (.t 9), none, []⟩,
        ⟨(some 11), .cn (.t 0), none, []⟩,
        ⟨(some 12), .len false (.t 11), none, []⟩,
        ⟨(some 13), .bin .plain .sub (.t 10) (.t 12), none, []⟩,
        ⟨(some 14), .bin .plain .sub (.t 8) (.t 13), none, []⟩,
        ⟨(some 1), .mv (.t 14), none, []⟩])
      (.seq
       (.reg [] [
         ⟨(some 15), .mv (.t 1), none, []⟩,
         ⟨(some 16), .bin .plain .gtr (.t 15) (.k (.int .i64 0)), none, []⟩])
       (.cond (.t 16)
        (.reg [] [
          ⟨(some 17), .mv (.t 0), none, []⟩,
          ⟨(some 18), .mv (.t 0), none, []⟩,
          ⟨(some 19), .capn (.t 18), none, []⟩,
          ⟨(some 20), .trunc 0 (.t 17) (.t 19), none, []⟩,
          ⟨(some 21), .mv (.t 1), none, []⟩,
          ⟨(some 22), .appz 1 ty_uint8 1 1 [(.int .u8 0)] (.t 20) (.t 21), none, []⟩,
          ⟨(some 23), .cn (.t 0), none, [0]⟩,
          ⟨(some 24), .len false (.t 23), none, []⟩,
          ⟨(some 25), .trunc 2 (.t 22) (.t 24), none, []⟩,
          ⟨(some 0), .mv (.t 25), none, []⟩])
        .skip)))
     (.seq
      (.reg [] [
        ⟨(some 26), .mv (.t 0), none, []⟩,
        ⟨(some 4), .mv (.t 26), none, []⟩])
      (.ret i_slices_Grow_sl_byte_byte_r))))),
  [.tmp 4], [true], false, [true, false]⟩

def i_tree_of_r : List Bool := [false, false, false, false, false, false, true, true, false, false, false, false, false, false, false, false]
/-- heartwood/tree.of -/
def i_tree_of : Ev.Fn := ⟨3, 16, 0,
  (.seq
   (.reg [] [
     ⟨(some 6), .cn (.k (.slice none 0 0)), none, []⟩,
     ⟨(some 7), .mv (.k .nilIface), none, []⟩])
   (.seq
    (.seq
     (.reg [] [
       ⟨(some 8), .mv (.t 2), none, []⟩,
       ⟨(some 9), .bin (.iface ty_api_Code true) .neq (.t 8) (.k .nilIface), none, []⟩])
     (.cond (.t 9)
      (.seq
       (.reg [] [
         ⟨(some 10), .mki ty_api_Code (.k (.int .i64 3)), none, []⟩,
         ⟨(some 6), .cn (.k (.slice none 0 0)), none, []⟩,
         ⟨(some 7), .mv (.t 10), none, []⟩])
       (.ret i_tree_of_r))
      .skip))
    (.seq
     (.reg [] [
       ⟨(some 11), .mv (.t 0), none, []⟩,
       ⟨(some 12), .cn (.t 1), none, []⟩,
       ⟨(some 13), .qcall n_digest_Of [(.t 11), (.t 12)] [], none, []⟩,
       ⟨(some 14), .ext 0 (.t 13), none, []⟩,
       ⟨(some 15), .ext 1 (.t 13), none, []⟩,
       ⟨(some 6), .cn (.t 14), none, []⟩,
       ⟨(some 7), .mv (.t 15), none, []⟩])
     (.ret i_tree_of_r)))),
  [.tmp 6, .tmp 7], [], false, []⟩

def i_digest_Node_r : List Bool := [false, false, false, false, false, false, false, false, true, true, false, false, false, false, false, false, false, false, false, false, false, false, false, false, false, false, false, false, false, false, false, false, false, false, false, false, false, false]
/-- heartwood/digest.Node -/
def i_digest_Node : Ev.Fn := ⟨4, 38, 0,
  (.seq
   (.reg [] [
     ⟨(some 8), .cn (.k (.slice none 0 0)), none, []⟩,
     ⟨(some 9), .mv (.k .nilIface), none, []⟩])
   (.seq
    (.seq
     (.reg [] [
       ⟨(some 10), .mv (.t 0), none, []⟩,
       ⟨(some 11), .qcall n_digest_width [(.t 10)] [], none, []⟩,
       ⟨(some 12), .un .not (.t 11), none, []⟩,
       ⟨(some 13), .mv (.t 12), none, []⟩,
       ⟨(some 14), .cn (.t 1), (some (13, false)), []⟩,
       ⟨(some 15), .len false (.t 14), (some (13, false)), []⟩,
       ⟨(some 16), .mv (.t 0), (some (13, false)), []⟩,
       ⟨(some 17), .bin .plain .neq (.t 15) (.t 16), (some (13, false)), []⟩,
       ⟨(some 18), .pick (.t 13) (.k (.bool true)) (.t 17), none, []⟩,
       ⟨(some 19), .mv (.t 18), none, []⟩,
       ⟨(some 20), .cn (.t 2), (some (19, false)), []⟩,
       ⟨(some 21), .len false (.t 20), (some (19, false)), []⟩,
       ⟨(some 22), .mv (.t 0), (some (19, false)), []⟩,
       ⟨(some 23), .bin .plain .neq (.t 21) (.t 22), (some (19, false)), []⟩,
       ⟨(some 24), .pick (.t 19) (.k (.bool true)) (.t 23), none, []⟩,
       ⟨(some 25), .mv (.t 24), none, []⟩,
       ⟨(some 26), .cn (.t 3), (some (25, false)), []⟩,
       ⟨(some 27), .len false (.t 26), (some (25, false)), []⟩,
       ⟨(some 28), .mv (.t 0), (some (25, false)), []⟩,
       ⟨(some 29), .bin .plain .neq (.t 27) (.t 28), (some (25, false)), []⟩,
       ⟨(some 30), .pick (.t 25) (.k (.bool true)) (.t 29), none, []⟩])
     (.cond (.t 30)
      (.seq
       (.reg [] [
         ⟨(some 31), .mki ty_api_Code (.k (.int .i64 1)), none, []⟩,
         ⟨(some 8), .cn (.k (.slice none 0 0)), none, []⟩,
         ⟨(some 9), .mv (.t 31), none, []⟩])
       (.ret i_digest_Node_r))
      .skip))
    (.seq
     (.reg [] [
       ⟨(some 32), .litd 1 1 [(.int .u8 0)] [(0, (.k (.int .u8 2)))], none, []⟩,
       ⟨(some 33), .cn (.t 1), none, []⟩,
       ⟨(some 34), .cn (.t 2), none, []⟩,
       ⟨(some 35), .cn (.t 3), none, []⟩,
       ⟨(some 36), .litd 1 4 [(.slice none 0 0)] [(0, (.t 32)), (1, (.t 33)), (2, (.t 34)), (3, (.t 35))], none, []⟩,
       ⟨(some 37), .qcall n_slices_Concat_sl_byte_byte [(.t 36)] [], none, []⟩,
       ⟨(some 8), .cn (.t 37), none, []⟩,
       ⟨(some 9), .mv (.k .nilIface), none, []⟩])
     (.ret i_digest_Node_r)))),
  [.tmp 8, .tmp 9], [], false, []⟩

def i_tree_Full_r : List Bool := [false, false, true, false, false, false, false, false, false, false]
/-- heartwood/tree.Full -/
def i_tree_Full : Ev.Fn := ⟨1, 10, 1,
  (.seq
   (.reg [] [
     ⟨(some 1), .box 0 5 (.t 0), none, []⟩,
     ⟨(some 2), .mv (.k (.bool false)), none, []⟩])
   (.seq
    (.reg [] [
      ⟨(some 3), .load true 5 (.t 1), none, []⟩,
      ⟨(some 4), .qcall n_tree_Check [(.t 3)] [], none, []⟩,
      ⟨(some 5), .bin (.iface ty_api_Code true) .eql (.t 4) (.k .nilIface), none, []⟩,
      ⟨(some 6), .mv (.t 5), none, []⟩,
      ⟨(some 7), .load true 5 (.t 1), (some (6, true)), []⟩,
      ⟨(some 8), .qcall n_tree_full [(.t 7)] [], (some (6, true)), []⟩,
      ⟨(some 9), .pick (.t 6) (.t 8) (.k (.bool false)), none, []⟩,
      ⟨(some 2), .mv (.t 9), none, []⟩])
    (.ret i_tree_Full_r))),
  [.tmp 2], [], false, []⟩

def i_tree_full_r : List Bool := [false, false, true, false, false, false, false, false, false, false, false, false, false, false, false]
/-- heartwood/tree.full -/
def i_tree_full : Ev.Fn := ⟨1, 15, 1,
  (.seq
   (.reg [] [
     ⟨(some 1), .box 0 5 (.t 0), none, []⟩,
     ⟨(some 2), .mv (.k (.bool false)), none, []⟩])
   (.seq
    (.seq
     (.reg [] [
       ⟨(some 3), .fa 0 (.t 1), none, []⟩,
       ⟨(some 4), .load false 1 (.t 3), none, []⟩,
       ⟨(some 5), .bin .plain .eql (.t 4) (.k (.int .i64 2)), none, []⟩,
       ⟨(some 6), .mv (.t 5), none, []⟩,
       ⟨(some 7), .fa 0 (.t 1), (some (6, false)), []⟩,
       ⟨(some 8), .load false 1 (.t 7), (some (6, false)), []⟩,
       ⟨(some 9), .bin .plain .eql (.t 8) (.k (.int .i64 3)), (some (6, false)), []⟩,
       ⟨(some 10), .pick (.t 6) (.k (.bool true)) (.t 9), none, []⟩])
     (.cond (.t 10)
      (.seq
       (.reg [] [
         ⟨(some 2), .mv (.k (.bool false)), none, []⟩])
       (.ret i_tree_full_r))
      .skip))
    (.seq
     (.reg [] [
       ⟨(some 11), .fa 4 (.t 1), none, []⟩,
       ⟨(some 12), .load false 1 (.t 11), none, []⟩,
       ⟨(some 13), .call n_slices_ContainsFunc_sl_api_Tree_api_Tree [(.t 12), (.f n_tree_full_1)] [], none, []⟩,
       ⟨(some 14), .un .not (.t 13), none, []⟩,
       ⟨(some 2), .mv (.t 14), none, []⟩])
     (.ret i_tree_full_r)))),
  [.tmp 2], [], false, []⟩

def i_tree_full_1_r : List Bool := [false, false, true, false, false, false]
/-- heartwood/tree.full$1 -/
def i_tree_full_1 : Ev.Fn := ⟨1, 6, 1,
  (.seq
   (.reg [] [
     ⟨(some 1), .box 0 5 (.t 0), none, []⟩,
     ⟨(some 2), .mv (.k (.bool false)), none, []⟩])
   (.seq
    (.reg [] [
      ⟨(some 3), .load true 5 (.t 1), none, []⟩,
      ⟨(some 4), .qcall n_tree_full [(.t 3)] [], none, []⟩,
      ⟨(some 5), .un .not (.t 4), none, []⟩,
      ⟨(some 2), .mv (.t 5), none, []⟩])
    (.ret i_tree_full_1_r))),
  [.tmp 2], [], false, []⟩

def i_law04_small_r : List Bool := [false, false, true, false, false, false]
/-- heartwood/heartwoodlaw04.small -/
def i_law04_small : Ev.Fn := ⟨1, 6, 1,
  (.seq
   (.reg [] [
     ⟨(some 1), .box 0 5 (.t 0), none, []⟩,
     ⟨(some 2), .mv (.k (.bool false)), none, []⟩])
   (.seq
    (.reg [] [
      ⟨(some 3), .load true 5 (.t 1), none, []⟩,
      ⟨(some 4), .qcall n_ref04_Light [(.t 3), (.k (.int .i64 500)), (.k (.int .i64 200))] [], none, []⟩,
      ⟨(some 5), .bin .plain .geq (.t 4) (.k (.int .i64 0)), none, []⟩,
      ⟨(some 2), .mv (.t 5), none, []⟩])
    (.ret i_law04_small_r))),
  [.tmp 2], [], false, []⟩

def i_ref04_Light_r : List Bool := [false, false, false, false, false, false, true, false, false, false, false, false, false, false, false, false, false, false, false, false, false, false, false, false, false, false, false, false, false, false, false, false, false, false, false, false, false, false, false, false, false, false, false, false, false, false, false, false, false, false, false, false, false, false, false, false, false, false, false, false]
def i_ref04_Light_j1 : List Bool := [false, true, true, true, false, false, false, true, false, false, false, false, false, false, false, false, false, false, false, false, false, false, false, false, false, false, false, false, false, false, false, false, false, false, false, false, false, false, false, false, false, false, false, false, false, false, false, false, false, false, false, false, false, false, false, false, false, false, false, false]
def i_ref04_Light_k0 : List Bool := [false, true, true, true, false, false, false, true, false, false, false, false, false, false, false, false, false, false, false, false, false, false, false, false, false, false, false, false, false, false, false, false, false, false, false, false, false, false, false, false, false, false, false, false, false, false, false, false, false, false, false, false, false, false, false, false, false, false, false, false]
def i_ref04_Light_j0 : List Bool := [false, true, false, false, false, false, false, false, false, false, false, false, false, false, false, false, false, false, false, false, false, false, false, false, false, false, false, false, false, false, false, false, false, false, false, false, false, false, false, false, false, false, false, false, false, false, false, false, false, false, false, false, false, false, false, false, false, false, false, false]
abbrev s_ref04_Light_R (t6 : AV) (h : Heap) : St := ⟨[.undef, .undef, .undef, .undef, .undef, .undef, t6, .undef, .undef, .undef, .undef, .undef, .undef, .undef, .undef, .undef, .undef, .undef, .undef, .undef, .undef, .undef, .undef, .undef, .undef, .undef, .undef, .undef, .undef, .undef, .undef, .undef, .undef, .undef, .undef, .undef, .undef, .undef, .undef, .undef, .undef, .undef, .undef, .undef, .undef, .undef, .undef, .undef, .undef, .undef, .undef, .undef, .undef, .undef, .undef, .undef, .undef, .undef, .undef, .undef], h⟩
abbrev s_ref04_Light_K0 (t1 t2 t3 t7 : AV) (h : Heap) : St := ⟨[.undef, t1, t2, t3, .undef, .undef, .undef, t7, .undef, .undef, .undef, .undef, .undef, .undef, .undef, .undef, .undef, .undef, .undef, .undef, .undef, .undef, .undef, .undef, .undef, .undef, .undef, .undef, .undef, .undef, .undef, .undef, .undef, .undef, .undef, .undef, .undef, .undef, .undef, .undef, .undef, .undef, .undef, .undef, .undef, .undef, .undef, .undef, .undef, .undef, .undef, .undef, .undef, .undef, .undef, .undef, .undef, .undef, .undef, .undef], h⟩
def i_ref04_Light_b0 : IR :=
  (.seq
   (.seq
    (.reg [] [
      ⟨(some 41), .mv (.t 7), none, []⟩,
      ⟨(some 42), .fa 4 (.t 3), none, []⟩,
      ⟨(some 43), .load false 1 (.t 42), none, []⟩,
      ⟨(some 44), .len false (.t 43), none, []⟩,
      ⟨(some 45), .bin .plain .lss (.t 41) (.t 44), none, []⟩])
    (.cond (.t 45)
     .skip
     (.exit 0 i_ref04_Light_j0)))
   (.seq
    (.block 1 i_ref04_Light_j1
     (.seq
      (.reg [] [
        ⟨(some 48), .fa 4 (.t 3), none, []⟩,
        ⟨(some 49), .load false 1 (.t 48), none, []⟩,
        ⟨(some 50), .mv (.t 7), none, []⟩,
        ⟨(some 51), .ia 5 (.t 49) (.t 50), none, []⟩,
        ⟨(some 52), .load true 5 (.t 51), none, []⟩,
        ⟨(some 53), .mv (.t 1), none, []⟩,
        ⟨(some 54), .mv (.t 2), none, []⟩,
        ⟨(some 55), .bin .plain .sub (.t 54) (.k (.int .i64 1)), none, []⟩,
        ⟨(some 56), .qcall n_ref04_Light [(.t 52), (.t 53), (.t 55)] [], none, []⟩,
        ⟨(some 1), .mv (.t 56), none, []⟩])
      (.seq
       (.reg [] [
         ⟨(some 57), .mv (.t 1), none, []⟩,
         ⟨(some 58), .bin .plain .lss (.t 57) (.k (.int .i64 0)), none, []⟩])
       (.cond (.t 58)
        (.seq
         (.reg [] [
           ⟨(some 6), .mv (.k (.int .i64 (-1))), none, []⟩])
         (.ret i_ref04_Light_r))
        .skip))))
    (.reg [] [
      ⟨(some 46), .mv (.t 7), none, []⟩,
      ⟨(some 47), .bin .plain .add (.t 46) (.k (.int .i64 1)), none, []⟩,
      ⟨(some 7), .mv (.t 47), none, []⟩])))

abbrev s_ref04_Light_J0 (t1 : AV) (h : Heap) : St := ⟨[.undef, t1, .undef, .undef, .undef, .undef, .undef, .undef, .undef, .undef, .undef, .undef, .undef, .undef, .undef, .undef, .undef, .undef, .undef, .undef, .undef, .undef, .undef, .undef, .undef, .undef, .undef, .undef, .undef, .undef, .undef, .undef, .undef, .undef, .undef, .undef, .undef, .undef, .undef, .undef, .undef, .undef, .undef, .undef, .undef, .undef, .undef, .undef, .undef, .undef, .undef, .undef, .undef, .undef, .undef, .undef, .undef, .undef, .undef, .undef], h⟩
/-- heartwood/heartwoodref04.Light -/
def i_ref04_Light : Ev.Fn := ⟨3, 60, 1,
  (.seq
   (.reg [] [
     ⟨(some 3), .box 0 5 (.t 0), none, []⟩,
     ⟨(some 6), .mv (.k (.int .i64 0)), none, []⟩])
   (.seq
    (.reg [] [
      ⟨(some 8), .mv (.t 1), none, []⟩,
      ⟨(some 9), .bin .plain .sub (.t 8) (.k (.int .i64 1)), none, []⟩,
      ⟨(some 1), .mv (.t 9), none, []⟩])
    (.seq
     (.seq
      (.reg [] [
        ⟨(some 10), .mv (.t 2), none, []⟩,
        ⟨(some 11), .bin .plain .eql (.t 10) (.k (.int .i64 0)), none, []⟩,
        ⟨(some 12), .mv (.t 11), none, []⟩,
        ⟨(some 13), .mv (.t 1), (some (12, false)), []⟩,
        ⟨(some 14), .bin .plain .lss (.t 13) (.k (.int .i64 0)), (some (12, false)), []⟩,
        ⟨(some 15), .pick (.t 12) (.k (.bool true)) (.t 14), none, []⟩,
        ⟨(some 16), .mv (.t 15), none, []⟩,
        ⟨(some 17), .fa 4 (.t 3), (some (16, false)), []⟩,
        ⟨(some 18), .load false 1 (.t 17), (some (16, false)), []⟩,
        ⟨(some 19), .len false (.t 18), (some (16, false)), []⟩,
        ⟨(some 20), .mv (.t 1), (some (16, false)), []⟩,
        ⟨(some 21), .bin .plain .gtr (.t 19) (.t 20), (some (16, false)), []⟩,
        ⟨(some 22), .pick (.t 16) (.k (.bool true)) (.t 21), none, []⟩,
        ⟨(some 23), .mv (.t 22), none, []⟩,
        ⟨(some 24), .fa 1 (.t 3), (some (23, false)), []⟩,
        ⟨(some 25), .load false 1 (.t 24), (some (23, false)), []⟩,
        ⟨(some 26), .len false (.t 25), (some (23, false)), []⟩,
        ⟨(some 27), .bin .plain .gtr (.t 26) (.k (.int .i64 3000)), (some (23, false)), []⟩,
        ⟨(some 28), .pick (.t 23) (.k (.bool true)) (.t 27), none, []⟩,
        ⟨(some 29), .mv (.t 28), none, []⟩,
        ⟨(some 30), .fa 2 (.t 3), (some (29, false)), []⟩,
        ⟨(some 31), .load false 1 (.t 30), (some (29, false)), []⟩,
        ⟨(some 32), .len false (.t 31), (some (29, false)), []⟩,
        ⟨(some 33), .bin .plain .gtr (.t 32) (.k (.int .i64 3000)), (some (29, false)), []⟩,
        ⟨(some 34), .pick (.t 29) (.k (.bool true)) (.t 33), none, []⟩,
        ⟨(some 35), .mv (.t 34), none, []⟩,
        ⟨(some 36), .fa 3 (.t 3), (some (35, false)), []⟩,
        ⟨(some 37), .load false 1 (.t 36), (some (35, false)), []⟩,
        ⟨(some 38), .len false (.t 37), (some (35, false)), []⟩,
        ⟨(some 39), .bin .plain .gtr (.t 38) (.k (.int .i64 3000)), (some (35, false)), []⟩,
        ⟨(some 40), .pick (.t 35) (.k (.bool true)) (.t 39), none, []⟩])
      (.cond (.t 40)
       (.seq
        (.reg [] [
          ⟨(some 6), .mv (.k (.int .i64 (-1))), none, []⟩])
        (.ret i_ref04_Light_r))
       .skip))
     (.seq
      (.seq
       (.reg [] [
         ⟨(some 7), .mv (.k (.int .i64 0)), none, []⟩])
       (.block 0 i_ref04_Light_j0
        (.loop i_ref04_Light_k0 i_ref04_Light_b0)))
      (.seq
       (.reg [] [
         ⟨(some 59), .mv (.t 1), none, []⟩,
         ⟨(some 6), .mv (.t 59), none, []⟩])
       (.ret i_ref04_Light_r)))))),
  [.tmp 6], [], false, []⟩

def i_ref04_Check_r : List Bool := [false, false, true, false, false, false, false, false, false, false, false, false]
/-- heartwood/heartwoodref04.Check -/
def i_ref04_Check : Ev.Fn := ⟨1, 12, 1,
  (.seq
   (.reg [] [
     ⟨(some 1), .box 0 5 (.t 0), none, []⟩,
     ⟨(some 2), .mv (.k (.int .i64 0)), none, []⟩])
   (.seq
    (.reg [] [
      ⟨(some 5), .load true 5 (.t 1), none, []⟩,
      ⟨(some 6), .qcall n_ref04_Deep [(.t 5), (.k (.int .i64 64))] [], none, []⟩,
      ⟨(some 3), .mv (.t 6), none, []⟩])
    (.seq
     (.seq
      (.reg [] [
        ⟨(some 7), .mv (.t 3), none, []⟩])
      (.cond (.t 7)
       (.seq
        (.reg [] [
          ⟨(some 2), .mv (.k (.int .i64 5)), none, []⟩])
        (.ret i_ref04_Check_r))
       .skip))
     (.seq
      (.reg [] [
        ⟨(some 8), .load true 5 (.t 1), none, []⟩,
        ⟨(some 9), .qcall n_ref04_Formed [(.t 8)] [], none, []⟩,
        ⟨(some 4), .mv (.t 9), none, []⟩])
      (.seq
       (.seq
        (.reg [] [
          ⟨(some 10), .mv (.t 4), none, []⟩,
          ⟨(some 11), .un .not (.t 10), none, []⟩])
        (.cond (.t 11)
         (.seq
          (.reg [] [
            ⟨(some 2), .mv (.k (.int .i64 3)), none, []⟩])
          (.ret i_ref04_Check_r))
         .skip))
       (.seq
        (.reg [] [
          ⟨(some 2), .mv (.k (.int .i64 0)), none, []⟩])
        (.ret i_ref04_Check_r))))))),
  [.tmp 2], [], false, []⟩

def i_ref04_Deep_r : List Bool := [false, false, false, false, true, false, false, false, false, false, false, false, false, false, false, false, false, false, false, false, false, false, false, false, false, false, false, false, false, false, false, false, false, false, false, false, false, false, false, false, false, false, false]
def i_ref04_Deep_j1 : List Bool := [false, true, true, false, false, false, true, false, false, false, false, false, false, false, false, false, false, false, false, false, false, false, false, false, false, false, false, false, false, false, false, false, false, false, false, false, false, false, false, false, false, false, false]
def i_ref04_Deep_k0 : List Bool := [false, true, true, false, false, false, true, false, false, false, false, false, false, false, false, false, false, false, false, false, false, false, false, false, false, false, false, false, false, false, false, false, false, false, false, false, false, false, false, false, false, false, false]
def i_ref04_Deep_j0 : List Bool := [false, false, false, false, false, false, false, false, false, false, false, false, false, false, false, false, false, false, false, false, false, false, false, false, false, false, false, false, false, false, false, false, false, false, false, false, false, false, false, false, false, false, false]
abbrev s_ref04_Deep_R (t4 : AV) (h : Heap) : St := ⟨[.undef, .undef, .undef, .undef, t4, .undef, .undef, .undef, .undef, .undef, .undef, .undef, .undef, .undef, .undef, .undef, .undef, .undef, .undef, .undef, .undef, .undef, .undef, .undef, .undef, .undef, .undef, .undef, .undef, .undef, .undef, .undef, .undef, .undef, .undef, .undef, .undef, .undef, .undef, .undef, .undef, .undef, .undef], h⟩
abbrev s_ref04_Deep_K0 (t1 t2 t6 : AV) (h : Heap) : St := ⟨[.undef, t1, t2, .undef, .undef, .undef, t6, .undef, .undef, .undef, .undef, .undef, .undef, .undef, .undef, .undef, .undef, .undef, .undef, .undef, .undef, .undef, .undef, .undef, .undef, .undef, .undef, .undef, .undef, .undef, .undef, .undef, .undef, .undef, .undef, .undef, .undef, .undef, .undef, .undef, .undef, .undef, .undef], h⟩
def i_ref04_Deep_b0 : IR :=
  (.seq
   (.seq
    (.reg [] [
      ⟨(some 27), .mv (.t 6), none, []⟩,
      ⟨(some 28), .fa 4 (.t 2), none, []⟩,
      ⟨(some 29), .load false 1 (.t 28), none, []⟩,
      ⟨(some 30), .len false (.t 29), none, []⟩,
      ⟨(some 31), .bin .plain .lss (.t 27) (.t 30), none, []⟩])
    (.cond (.t 31)
     .skip
     (.exit 0 i_ref04_Deep_j0)))
   (.seq
    (.block 1 i_ref04_Deep_j1
     (.seq
      (.reg [] [
        ⟨(some 34), .fa 4 (.t 2), none, []⟩,
        ⟨(some 35), .load false 1 (.t 34), none, []⟩,
        ⟨(some 36), .mv (.t 6), none, []⟩,
        ⟨(some 37), .ia 5 (.t 35) (.t 36), none, []⟩,
        ⟨(some 38), .load true 5 (.t 37), none, []⟩,
        ⟨(some 39), .mv (.t 1), none, []⟩,
        ⟨(some 40), .bin .plain .sub (.t 39) (.k (.int .i64 1)), none, []⟩,
        ⟨(some 41), .qcall n_ref04_Deep [(.t 38), (.t 40)] [], none, []⟩,
        ⟨(some 7), .mv (.t 41), none, []⟩])
      (.seq
       (.reg [] [
         ⟨(some 42), .mv (.t 7), none, []⟩])
       (.cond (.t 42)
        (.seq
         (.reg [] [
           ⟨(some 4), .mv (.k (.bool true)), none, []⟩])
         (.ret i_ref04_Deep_r))
        .skip))))
    (.reg [] [
      ⟨(some 32), .mv (.t 6), none, []⟩,
      ⟨(some 33), .bin .plain .add (.t 32) (.k (.int .i64 1)), none, []⟩,
      ⟨(some 6), .mv (.t 33), none, []⟩])))

abbrev s_ref04_Deep_J0 (h : Heap) : St := ⟨[.undef, .undef, .undef, .undef, .undef, .undef, .undef, .undef, .undef, .undef, .undef, .undef, .undef, .undef, .undef, .undef, .undef, .undef, .undef, .undef, .undef, .undef, .undef, .undef, .undef, .undef, .undef, .undef, .undef, .undef, .undef, .undef, .undef, .undef, .undef, .undef, .undef, .undef, .undef, .undef, .undef, .undef, .undef], h⟩
/-- heartwood/heartwoodref04.Deep -/
def i_ref04_Deep : Ev.Fn := ⟨2, 43, 1,
  (.seq
   (.reg [] [
     ⟨(some 2), .box 0 5 (.t 0), none, []⟩,
     ⟨(some 4), .mv (.k (.bool false)), none, []⟩])
   (.seq
    (.reg [] [
      ⟨(some 8), .fa 0 (.t 2), none, []⟩,
      ⟨(some 9), .load false 1 (.t 8), none, []⟩,
      ⟨(some 10), .bin .plain .eql (.t 9) (.k (.int .i64 1)), none, []⟩,
      ⟨(some 11), .mv (.t 10), none, []⟩,
      ⟨(some 12), .fa 0 (.t 2), (some (11, false)), []⟩,
      ⟨(some 13), .load false 1 (.t 12), (some (11, false)), []⟩,
      ⟨(some 14), .bin .plain .eql (.t 13) (.k (.int .i64 2)), (some (11, false)), []⟩,
      ⟨(some 15), .pick (.t 11) (.k (.bool true)) (.t 14), none, []⟩,
      ⟨(some 16), .mv (.t 15), none, []⟩,
      ⟨(some 17), .fa 4 (.t 2), (some (16, false)), []⟩,
      ⟨(some 18), .load false 1 (.t 17), (some (16, false)), []⟩,
      ⟨(some 19), .len false (.t 18), (some (16, false)), []⟩,
      ⟨(some 20), .bin .plain .gtr (.t 19) (.k (.int .i64 0)), (some (16, false)), []⟩,
      ⟨(some 21), .pick (.t 16) (.k (.bool true)) (.t 20), none, []⟩,
      ⟨(some 5), .mv (.t 21), none, []⟩])
    (.seq
     (.seq
      (.reg [] [
        ⟨(some 22), .mv (.t 5), none, []⟩,
        ⟨(some 23), .mv (.t 22), none, []⟩,
        ⟨(some 24), .mv (.t 1), (some (23, true)), []⟩,
        ⟨(some 25), .bin .plain .eql (.t 24) (.k (.int .i64 0)), (some (23, true)), []⟩,
        ⟨(some 26), .pick (.t 23) (.t 25) (.k (.bool false)), none, []⟩])
      (.cond (.t 26)
       (.seq
        (.reg [] [
          ⟨(some 4), .mv (.k (.bool true)), none, []⟩])
        (.ret i_ref04_Deep_r))
       .skip))
     (.seq
      (.seq
       (.reg [] [
         ⟨(some 6), .mv (.k (.int .i64 0)), none, []⟩])
       (.block 0 i_ref04_Deep_j0
        (.loop i_ref04_Deep_k0 i_ref04_Deep_b0)))
      (.seq
       (.reg [] [
         ⟨(some 4), .mv (.k (.bool false)), none, []⟩])
       (.ret i_ref04_Deep_r)))))),
  [.tmp 4], [], false, []⟩

end Go.Proofs.YtebiajdkgpcidaaDoor
