/- The IR of the seat's functions, printed by a program of this session. -/
import Derived.Test.YtdgfbfkjdflabaaIrP1
set_option linter.unusedVariables false
namespace Go.Proofs.Ytdgfbfkjdflabaa
open Go.Ev
def i_slices_ContainsFunc_sl_api_Tree_api_Tree_r : List Bool := pd 4 [o_,o_,o_,o_,i_]
def i_slices_ContainsFunc_sl_api_Tree_api_Tree : Ev.Fn := ⟨2, 9, 0, (.seq (.reg [] [oO 4 (.mv (.k (.bool false)))]) (.seq (.reg [] [oO 5 (.cn (.t 0)),mO 6 1,oO 7 (.call n_slices_IndexFunc_sl_api_Tree_api_Tree [(.t 5), (.t 6)] []),oO 8 (.bin .plain .geq (.t 7) (.k (.int .i64 0))),mO 4 8]) (.ret i_slices_ContainsFunc_sl_api_Tree_api_Tree_r))),
 [.tmp 4], [], false, [], false⟩
def i_slices_IndexFunc_sl_api_Tree_api_Tree_r : List Bool := pd 14 [o_,o_,o_,o_,i_]
def i_slices_IndexFunc_sl_api_Tree_api_Tree_j1 : List Bool := pd 10 [i_,i_,o_,o_,o_,o_,o_,i_,i_]
def i_slices_IndexFunc_sl_api_Tree_api_Tree_k0 : List Bool := pd 10 [i_,i_,o_,o_,o_,o_,o_,i_,i_]
def i_slices_IndexFunc_sl_api_Tree_api_Tree_j0 : List Bool := pd 19 []
abbrev s_slices_IndexFunc_sl_api_Tree_api_Tree_R (t4 : AV) (h : Heap) : St := ⟨[u_,u_,u_,u_,t4, u_,u_,u_,u_,u_,u_,u_,u_,u_,u_,u_,u_,u_,u_], h⟩
abbrev s_slices_IndexFunc_sl_api_Tree_api_Tree_K0 (t0 t1 t7 t8 : AV) (h : Heap) : St := ⟨[t0, t1, u_,u_,u_,u_,u_,t7, t8, u_,u_,u_,u_,u_,u_,u_,u_,u_,u_], h⟩
def i_slices_IndexFunc_sl_api_Tree_api_Tree_b0 : IR := (.seq (.reg [] [oO 9 (.bin .plain .lss (.t 8) (.t 7))]) (.seq (.cond (.t 9) .skip (.exit 0 i_slices_IndexFunc_sl_api_Tree_api_Tree_j0)) (.seq (.block 1 i_slices_IndexFunc_sl_api_Tree_api_Tree_j1 (.seq (.reg [] [mO 10 8,mO 5 10]) (.seq (.reg [] [mO 11 1,oO 12 (.cn (.t 0)),mO 13 5,oO 14 (.ia 5 (.t 12) (.t 13)),oO 15 (.load true 5 (.t 14)),⟨(some 16), .callv (.t 11) [(.t 15)] [], none, [15]⟩]) (.cond (.t 16) (.seq (.reg [] [mO 17 5,mO 4 17]) (.ret i_slices_IndexFunc_sl_api_Tree_api_Tree_r)) .skip)))) (.reg [] [oO 18 (.bin .plain .add (.t 8) (.k (.int .i64 1))),mO 8 18]))))
abbrev s_slices_IndexFunc_sl_api_Tree_api_Tree_J0 (h : Heap) : St := ⟨[u_,u_,u_,u_,u_,u_,u_,u_,u_,u_,u_,u_,u_,u_,u_,u_,u_,u_,u_], h⟩
def i_slices_IndexFunc_sl_api_Tree_api_Tree : Ev.Fn := ⟨2, 19, 0, (.seq (.reg [] [oO 4 (.mv (.k (.int .i64 0)))]) (.seq (.seq (.reg [] [oO 6 (.cn (.t 0)),oO 7 (.len false (.t 6)),oO 8 (.mv (.k (.int .i64 0)))]) (.block 0 i_slices_IndexFunc_sl_api_Tree_api_Tree_j0 (.loop i_slices_IndexFunc_sl_api_Tree_api_Tree_k0 i_slices_IndexFunc_sl_api_Tree_api_Tree_b0))) (.seq (.reg [] [oO 4 (.mv (.k (.int .i64 (-1))))]) (.ret i_slices_IndexFunc_sl_api_Tree_api_Tree_r)))),
 [.tmp 4], [], false, [], false⟩
def i_tree_formed_r : List Bool := pd 84 [o_,o_,i_]
def i_tree_formed_j0 : List Bool := pd 83 [o_,i_,o_,i_]
def i_tree_formed : Ev.Fn := ⟨1, 87, 1, (.seq (.reg [] [oO 1 (.box 0 5 (.t 0)),oO 2 (.mv (.k (.bool false)))]) (.seq (.reg [] [oO 3 (.mv (.k (.bool false)))]) (.seq (.seq (.reg [] [oO 4 (.fa 0 (.t 1)),oO 5 (.load false 1 (.t 4))]) (.block 0 i_tree_formed_j0 (.seq (.reg [] [oO 7 (.bin .plain .eql (.t 5) (.k (.int .i64 0))),mO 6 7]) (.cond (.t 6) (.reg [] [oO 8 (.fa 1 (.t 1)),oO 9 (.load false 1 (.t 8)),oO 10 (.len false (.t 9)),oO 11 (.fa 2 (.t 1)),oO 12 (.load false 1 (.t 11)),oO 13 (.len false (.t 12)),oO 14 (.bin .plain .add (.t 10) (.t 13)),oO 15 (.fa 3 (.t 1)),oO 16 (.load false 1 (.t 15)),oO 17 (.len false (.t 16)),oO 18 (.bin .plain .add (.t 14) (.t 17)),oO 19 (.fa 4 (.t 1)),oO 20 (.load false 1 (.t 19)),oO 21 (.len false (.t 20)),oO 22 (.bin .plain .add (.t 18) (.t 21)),oO 23 (.bin .plain .eql (.t 22) (.k (.int .i64 0))),mO 3 23]) (.seq (.reg [] [oO 25 (.bin .plain .eql (.t 5) (.k (.int .i64 1))),mO 24 25]) (.cond (.t 24) (.reg [] [oO 26 (.fa 1 (.t 1)),oO 27 (.load false 1 (.t 26)),oO 28 (.len false (.t 27)),oO 29 (.bin .plain .leq (.t 28) (.k (.int .i64 80))),mO 30 29,⟨(some 31), .fa 2 (.t 1), (some (30, true)), []⟩,⟨(some 32), .load false 1 (.t 31), (some (30, true)), []⟩,⟨(some 33), .len false (.t 32), (some (30, true)), []⟩,⟨(some 34), .bin .plain .leq (.t 33) (.k (.int .i64 1024)), (some (30, true)), []⟩,oO 35 (.pick (.t 30) (.t 34) (.k (.bool false))),mO 36 35,⟨(some 37), .fa 3 (.t 1), (some (36, true)), []⟩,⟨(some 38), .load false 1 (.t 37), (some (36, true)), []⟩,⟨(some 39), .len false (.t 38), (some (36, true)), []⟩,⟨(some 40), .bin .plain .eql (.t 39) (.k (.int .i64 0)), (some (36, true)), []⟩,oO 41 (.pick (.t 36) (.t 40) (.k (.bool false))),mO 42 41,⟨(some 43), .fa 4 (.t 1), (some (42, true)), []⟩,⟨(some 44), .load false 1 (.t 43), (some (42, true)), []⟩,⟨(some 45), .len false (.t 44), (some (42, true)), []⟩,⟨(some 46), .bin .plain .eql (.t 45) (.k (.int .i64 2)), (some (42, true)), []⟩,oO 47 (.pick (.t 42) (.t 46) (.k (.bool false))),mO 3 47]) (.seq (.reg [] [oO 49 (.bin .plain .eql (.t 5) (.k (.int .i64 2))),mO 48 49]) (.cond (.t 48) (.reg [] [oO 50 (.fa 1 (.t 1)),oO 51 (.load false 1 (.t 50)),oO 52 (.len false (.t 51)),oO 53 (.bin .plain .leq (.t 52) (.k (.int .i64 80))),mO 54 53,⟨(some 55), .fa 2 (.t 1), (some (54, true)), []⟩,⟨(some 56), .load false 1 (.t 55), (some (54, true)), []⟩,⟨(some 57), .len false (.t 56), (some (54, true)), []⟩,⟨(some 58), .bin .plain .eql (.t 57) (.k (.int .i64 0)), (some (54, true)), []⟩,oO 59 (.pick (.t 54) (.t 58) (.k (.bool false))),mO 60 59,⟨(some 61), .fa 4 (.t 1), (some (60, true)), []⟩,⟨(some 62), .load false 1 (.t 61), (some (60, true)), []⟩,⟨(some 63), .len false (.t 62), (some (60, true)), []⟩,⟨(some 64), .bin .plain .eql (.t 63) (.k (.int .i64 2)), (some (60, true)), []⟩,oO 65 (.pick (.t 60) (.t 64) (.k (.bool false))),mO 3 65]) (.seq (.reg [] [oO 67 (.bin .plain .eql (.t 5) (.k (.int .i64 3))),mO 66 67]) (.cond (.t 66) (.reg [] [oO 68 (.fa 1 (.t 1)),oO 69 (.load false 1 (.t 68)),oO 70 (.len false (.t 69)),oO 71 (.fa 2 (.t 1)),oO 72 (.load false 1 (.t 71)),oO 73 (.len false (.t 72)),oO 74 (.bin .plain .add (.t 70) (.t 73)),oO 75 (.fa 4 (.t 1)),oO 76 (.load false 1 (.t 75)),oO 77 (.len false (.t 76)),oO 78 (.bin .plain .add (.t 74) (.t 77)),oO 79 (.bin .plain .eql (.t 78) (.k (.int .i64 0))),mO 3 79]) .skip)))))))))) (.seq (.reg [] [mO 80 3,mO 81 80,⟨(some 82), .fa 4 (.t 1), (some (81, true)), []⟩,⟨(some 83), .load false 1 (.t 82), (some (81, true)), []⟩,⟨(some 84), .call n_slices_ContainsFunc_sl_api_Tree_api_Tree [(.t 83), (.f n_tree_formed_1)] [], (some (81, true)), []⟩,⟨(some 85), .un .not (.t 84), (some (81, true)), []⟩,oO 86 (.pick (.t 81) (.t 85) (.k (.bool false))),mO 2 86]) (.ret i_tree_formed_r))))),
 [.tmp 2], [], false, [], false⟩
def i_tree_formed_1_r : List Bool := [o_,o_,i_,o_,o_,o_]
def i_tree_formed_1 : Ev.Fn := ⟨1, 6, 1, (.seq (.reg [] [oO 1 (.box 0 5 (.t 0)),oO 2 (.mv (.k (.bool false)))]) (.seq (.reg [] [oO 3 (.load true 5 (.t 1)),oO 4 (.qcall n_tree_formed [(.t 3)] []),oO 5 (.un .not (.t 4)),mO 2 5]) (.ret i_tree_formed_1_r))),
 [.tmp 2], [], false, [], false⟩
def i_code_long_r : List Bool := pd 16 [o_,o_,i_]
def i_code_long_j1 : List Bool := pd 6 [o_,o_,o_,o_,o_,o_,o_,o_,o_,o_,i_,i_,i_]
def i_code_long_k0 : List Bool := pd 6 [o_,o_,o_,o_,o_,o_,o_,o_,o_,o_,i_,i_,i_]
def i_code_long_j0 : List Bool := pd 19 []
abbrev s_code_long_R (t2 : AV) (h : Heap) : St := ⟨[u_,u_,t2, u_,u_,u_,u_,u_,u_,u_,u_,u_,u_,u_,u_,u_,u_,u_,u_], h⟩
abbrev s_code_long_K0 (t10 t11 t12 : AV) (h : Heap) : St := ⟨[u_,u_,u_,u_,u_,u_,u_,u_,u_,u_,t10, t11, t12, u_,u_,u_,u_,u_,u_], h⟩
def i_code_long_b0 : IR := (.seq (.reg [] [oO 13 (.bin .plain .lss (.t 12) (.t 11))]) (.seq (.cond (.t 13) .skip (.exit 0 i_code_long_j0)) (.seq (.block 1 i_code_long_j1 (.seq (.reg [] [oO 14 (.ia 5 (.t 10) (.t 12)),oO 15 (.load true 5 (.t 14)),oO 4 (.new 1 [(.int .i64 0), (.slice none 0 0), (.slice none 0 0), (.slice none 0 0), (.slice none 0 0)]),⟨none, .store 5 (.t 4) (.t 15),none,[]⟩]) (.seq (.reg [] [oO 16 (.load true 5 (.t 4)),oO 17 (.qcall n_code_long [(.t 16)] [])]) (.cond (.t 17) (.seq (.reg [] [oO 2 (.mv (.k (.bool true)))]) (.ret i_code_long_r)) .skip)))) (.reg [] [oO 18 (.bin .plain .add (.t 12) (.k (.int .i64 1))),mO 12 18]))))
abbrev s_code_long_J0 (h : Heap) : St := ⟨[u_,u_,u_,u_,u_,u_,u_,u_,u_,u_,u_,u_,u_,u_,u_,u_,u_,u_,u_], h⟩
def i_code_long : Ev.Fn := ⟨1, 19, 2, (.seq (.reg [] [oO 1 (.box 0 5 (.t 0)),oO 2 (.mv (.k (.bool false)))]) (.seq (.seq (.reg [] [oO 5 (.fa 3 (.t 1)),oO 6 (.load false 1 (.t 5)),oO 7 (.len false (.t 6)),oO 8 (.bin .plain .gtr (.t 7) (.k (.int .i64 32)))]) (.cond (.t 8) (.seq (.reg [] [oO 2 (.mv (.k (.bool true)))]) (.ret i_code_long_r)) .skip)) (.seq (.seq (.reg [] [oO 9 (.fa 4 (.t 1)),oO 10 (.load false 1 (.t 9)),oO 11 (.len false (.t 10)),oO 12 (.mv (.k (.int .i64 0)))]) (.block 0 i_code_long_j0 (.loop i_code_long_k0 i_code_long_b0))) (.seq (.reg [] [oO 2 (.mv (.k (.bool false)))]) (.ret i_code_long_r))))),
 [.tmp 2], [], false, [], false⟩
def i_code_write_r : List Bool := pd 51 [o_,o_,o_,o_,i_]
def i_code_write_j0 : List Bool := pd 52 [i_,o_,o_,i_]
def i_code_write_j2 : List Bool := pd 8 [i_,o_,o_,o_,o_,o_,o_,o_,o_,o_,o_,o_,o_,o_,o_,o_,o_,o_,o_,o_,o_,o_,o_,o_,o_,o_,o_,o_,o_,o_,o_,o_,o_,o_,o_,o_,o_,o_,o_,o_,o_,o_,o_,o_,o_,i_,i_,i_]
def i_code_write_k0 : List Bool := pd 8 [i_,o_,o_,o_,o_,o_,o_,o_,o_,o_,o_,o_,o_,o_,o_,o_,o_,o_,o_,o_,o_,o_,o_,o_,o_,o_,o_,o_,o_,o_,o_,o_,o_,o_,o_,o_,o_,o_,o_,o_,o_,o_,o_,o_,o_,i_,i_,i_]
def i_code_write_j1 : List Bool := pd 55 [i_]
def i_code_write_b0 : IR := (.seq (.reg [] [oO 48 (.bin .plain .lss (.t 47) (.t 46))]) (.seq (.cond (.t 48) .skip (.exit 1 i_code_write_j1)) (.seq (.block 2 i_code_write_j2 (.seq (.reg [] [oO 49 (.ia 5 (.t 45) (.t 47)),oO 50 (.load true 5 (.t 49)),oO 6 (.new 2 [(.int .i64 0), (.slice none 0 0), (.slice none 0 0), (.slice none 0 0), (.slice none 0 0)]),⟨none, .store 5 (.t 6) (.t 50),none,[]⟩]) (.reg [] [mO 51 0,oO 52 (.load true 5 (.t 6)),oO 53 (.call n_code_write [(.t 51), (.t 52)] [3]),mO 0 53]))) (.reg [] [oO 54 (.bin .plain .add (.t 47) (.k (.int .i64 1))),mO 47 54]))))
def i_code_write : Ev.Fn := ⟨2, 56, 4, (.seq (.reg [] [oO 3 (.box 0 5 (.t 1)),oO 4 (.mv (.k (.slice none 0 0)))]) (.seq (.reg [] [mO 7 0,oO 8 (.fa 0 (.t 3)),oO 9 (.load false 1 (.t 8)),oO 10 (.conv .u8 (.t 9)),oO 11 (.litd 1 1 [(.int .u8 0)] [(0, (.t 10))]),oO 12 (.app 1 ty_uint8 1 1 (.t 7) (.t 11)),mO 0 12]) (.seq (.seq (.reg [] [oO 13 (.fa 0 (.t 3)),oO 14 (.load false 1 (.t 13))]) (.block 0 i_code_write_j0 (.seq (.reg [] [oO 16 (.bin .plain .eql (.t 14) (.k (.int .i64 1))),mO 15 16]) (.cond (.t 15) (.reg [(4, 6)] [mO 17 0,oO 18 (.fa 1 (.t 3)),oO 19 (.load false 1 (.t 18)),oO 20 (.qcall n_coder_Bytes [(.t 19)] []),oO 21 (.app 1 ty_uint8 1 1 (.t 17) (.t 20)),oO 22 (.fa 2 (.t 3)),oO 23 (.load false 1 (.t 22)),oO 24 (.qcall n_coder_Bytes [(.t 23)] []),oO 25 (.app 1 ty_uint8 1 1 (.t 21) (.t 24)),mO 0 25]) (.seq (.reg [] [oO 27 (.bin .plain .eql (.t 14) (.k (.int .i64 2))),mO 26 27]) (.cond (.t 26) (.reg [(4, 6)] [mO 28 0,oO 29 (.fa 1 (.t 3)),oO 30 (.load false 1 (.t 29)),oO 31 (.qcall n_coder_Bytes [(.t 30)] []),oO 32 (.app 1 ty_uint8 1 1 (.t 28) (.t 31)),oO 33 (.fa 3 (.t 3)),oO 34 (.load false 1 (.t 33)),oO 35 (.qcall n_coder_Bytes [(.t 34)] []),oO 36 (.app 1 ty_uint8 1 1 (.t 32) (.t 35)),mO 0 36]) (.seq (.reg [] [oO 38 (.bin .plain .eql (.t 14) (.k (.int .i64 3))),mO 37 38]) (.cond (.t 37) (.reg [] [mO 39 0,oO 40 (.fa 3 (.t 3)),oO 41 (.load false 1 (.t 40)),oO 42 (.qcall n_coder_Bytes [(.t 41)] []),oO 43 (.app 1 ty_uint8 1 1 (.t 39) (.t 42)),mO 0 43]) .skip)))))))) (.seq (.seq (.reg [] [oO 44 (.fa 4 (.t 3)),oO 45 (.load false 1 (.t 44)),oO 46 (.len false (.t 45)),oO 47 (.mv (.k (.int .i64 0)))]) (.block 1 i_code_write_j1 (.loop i_code_write_k0 i_code_write_b0))) (.seq (.reg [] [mO 55 0,mO 4 55]) (.ret i_code_write_r)))))),
 [.tmp 4], [true], false, [i_,o_], false⟩
def i_entry_writer_end_r : List Bool := pd 18 [o_,o_,i_,i_]
def i_entry_writer_end_j0 : List Bool := pd 21 [i_]
def i_entry_writer_end : Ev.Fn := ⟨1, 22, 0, (.seq (.reg [] [oO 2 (.cn (.k (.slice none 0 0))),oO 3 (.mv (.k .nilIface))]) (.seq (.block 0 i_entry_writer_end_j0 (.seq (.reg [] [mO 5 0,oO 6 (.nilc (.t 5)),oO 7 (.fa 1 (.t 6)),oO 8 (.load false 1 (.t 7)),mO 4 8]) (.cond (.t 4) (.seq (.reg [] [oO 9 (.mki ty_api_Code (.k (.int .i64 1))),oO 2 (.cn (.k (.slice none 0 0))),mO 3 9]) (.ret i_entry_writer_end_r)) (.seq (.reg [] [mO 11 0,oO 12 (.nilc (.t 11)),oO 13 (.fa 0 (.t 12)),oO 14 (.load false 1 (.t 13)),oO 15 (.len false (.t 14)),oO 16 (.bin .plain .gtr (.t 15) (.k (.int .i64 1048576))),mO 10 16]) (.cond (.t 10) (.seq (.reg [] [oO 17 (.mki ty_api_Code (.k (.int .i64 2))),oO 2 (.cn (.k (.slice none 0 0))),mO 3 17]) (.ret i_entry_writer_end_r)) .skip))))) (.seq (.reg [] [mO 18 0,oO 19 (.nilc (.t 18)),oO 20 (.fa 0 (.t 19)),oO 21 (.load false 1 (.t 20)),⟨(some 2), .cn (.t 21), none, [21]⟩,oO 3 (.mv (.k .nilIface))]) (.ret i_entry_writer_end_r)))),
 [.tmp 2, .tmp 3], [], false, [], false⟩
def tab (f : Nat) : Option Ev.Fn := match f with
 | 3 => some i_law21_NetFull
 | 5 => some i_law21_up
 | 7 => some i_net_New
 | 11 => some i_net_Net_Take
 | 19 => some i_net_Net_at
 | 24 => some i_net_line
 | 21 => some i_entry_Read
 | 36 => some i_coder_NewReader
 | 55 => some i_slices_Clone_sl_byte_byte
 | 37 => some i_entry_reader_count
 | 56 => some i_coder_Reader_Number
 | 38 => some i_coder_Reader_Byte
 | 57 => some i_coder_Reader_take
 | 39 => some i_entry_reader_entries
 | 58 => some i_entry_reader_fine
 | 60 => some i_coder_Reader_End
 | 41 => some i_coder_Reader_Bytes
 | 40 => some i_entry_reader_members
 | 42 => some i_code_Read
 | 59 => some i_code_Read_1
 | 43 => some i_entry_reader_end
 | 20 => some i_slices_Clone_sl_sl_byte_sl_byte
 | 6 => some i_law21_pick
 | 9 => some i_net_Net_Double
 | 10 => some i_net_Net_Len
 | 4 => some i_law21_NetPlays
 | 12 => some i_law21_small
 | 23 => some i_ref04_Light
 | 14 => some i_net_Net_Line
 | 15 => some i_law21_play
 | 25 => some i_law21_at
 | 26 => some i_law21_model_asked
 | 27 => some i_law21_model_send
 | 29 => some i_ref14_Write
 | 44 => some i_ref14_Writer_count
 | 61 => some i_ref02_Number
 | 45 => some i_ref14_Writer_entries
 | 47 => some i_ref14_Writer_bytes
 | 62 => some i_ref02_Bytes
 | 46 => some i_ref14_Writer_members
 | 48 => some i_ref10_Write
 | 63 => some i_ref04_Check
 | 68 => some i_ref04_Deep
 | 69 => some i_ref04_Formed
 | 64 => some i_ref10_long
 | 65 => some i_ref10_bytes
 | 49 => some i_ref14_Writer_end
 | 28 => some i_law00_Code
 | 16 => some i_law21_alike
 | 18 => some i_net_Net_Cut
 | 17 => some i_entry_Write
 | 30 => some i_entry_writer_counts
 | 50 => some i_coder_Number
 | 31 => some i_entry_writer_entries
 | 33 => some i_entry_writer_bytes
 | 51 => some i_coder_Bytes
 | 32 => some i_entry_writer_members
 | 34 => some i_code_Write
 | 52 => some i_tree_Check
 | 66 => some i_tree_deep
 | 71 => some i_tree_deep_1
 | 70 => some i_slices_ContainsFunc_sl_api_Tree_api_Tree
 | 73 => some i_slices_IndexFunc_sl_api_Tree_api_Tree
 | 67 => some i_tree_formed
 | 72 => some i_tree_formed_1
 | 53 => some i_code_long
 | 54 => some i_code_write
 | 35 => some i_entry_writer_end
 | _ => none
theorem t_law21_NetFull : tab n_law21_NetFull = some i_law21_NetFull := rfl
theorem t_law21_up : tab n_law21_up = some i_law21_up := rfl
theorem t_net_New : tab n_net_New = some i_net_New := rfl
theorem t_net_Net_Take : tab n_net_Net_Take = some i_net_Net_Take := rfl
theorem t_net_Net_at : tab n_net_Net_at = some i_net_Net_at := rfl
theorem t_net_line : tab n_net_line = some i_net_line := rfl
theorem t_entry_Read : tab n_entry_Read = some i_entry_Read := rfl
theorem t_coder_NewReader : tab n_coder_NewReader = some i_coder_NewReader := rfl
theorem t_slices_Clone_sl_byte_byte : tab n_slices_Clone_sl_byte_byte = some i_slices_Clone_sl_byte_byte := rfl
theorem t_entry_reader_count : tab n_entry_reader_count = some i_entry_reader_count := rfl
theorem t_coder_Reader_Number : tab n_coder_Reader_Number = some i_coder_Reader_Number := rfl
theorem t_coder_Reader_Byte : tab n_coder_Reader_Byte = some i_coder_Reader_Byte := rfl
theorem t_coder_Reader_take : tab n_coder_Reader_take = some i_coder_Reader_take := rfl
theorem t_entry_reader_entries : tab n_entry_reader_entries = some i_entry_reader_entries := rfl
theorem t_entry_reader_fine : tab n_entry_reader_fine = some i_entry_reader_fine := rfl
theorem t_coder_Reader_End : tab n_coder_Reader_End = some i_coder_Reader_End := rfl
theorem t_coder_Reader_Bytes : tab n_coder_Reader_Bytes = some i_coder_Reader_Bytes := rfl
theorem t_entry_reader_members : tab n_entry_reader_members = some i_entry_reader_members := rfl
theorem t_code_Read : tab n_code_Read = some i_code_Read := rfl
theorem t_code_Read_1 : tab n_code_Read_1 = some i_code_Read_1 := rfl
theorem t_entry_reader_end : tab n_entry_reader_end = some i_entry_reader_end := rfl
theorem t_slices_Clone_sl_sl_byte_sl_byte : tab n_slices_Clone_sl_sl_byte_sl_byte = some i_slices_Clone_sl_sl_byte_sl_byte := rfl
theorem t_law21_pick : tab n_law21_pick = some i_law21_pick := rfl
theorem t_net_Net_Double : tab n_net_Net_Double = some i_net_Net_Double := rfl
theorem t_net_Net_Len : tab n_net_Net_Len = some i_net_Net_Len := rfl
theorem t_law21_NetPlays : tab n_law21_NetPlays = some i_law21_NetPlays := rfl
theorem t_law21_small : tab n_law21_small = some i_law21_small := rfl
theorem t_ref04_Light : tab n_ref04_Light = some i_ref04_Light := rfl
theorem t_net_Net_Line : tab n_net_Net_Line = some i_net_Net_Line := rfl
theorem t_law21_play : tab n_law21_play = some i_law21_play := rfl
theorem t_law21_at : tab n_law21_at = some i_law21_at := rfl
theorem t_law21_model_asked : tab n_law21_model_asked = some i_law21_model_asked := rfl
theorem t_law21_model_send : tab n_law21_model_send = some i_law21_model_send := rfl
theorem t_ref14_Write : tab n_ref14_Write = some i_ref14_Write := rfl
theorem t_ref14_Writer_count : tab n_ref14_Writer_count = some i_ref14_Writer_count := rfl
theorem t_ref02_Number : tab n_ref02_Number = some i_ref02_Number := rfl
theorem t_ref14_Writer_entries : tab n_ref14_Writer_entries = some i_ref14_Writer_entries := rfl
theorem t_ref14_Writer_bytes : tab n_ref14_Writer_bytes = some i_ref14_Writer_bytes := rfl
theorem t_ref02_Bytes : tab n_ref02_Bytes = some i_ref02_Bytes := rfl
theorem t_ref14_Writer_members : tab n_ref14_Writer_members = some i_ref14_Writer_members := rfl
theorem t_ref10_Write : tab n_ref10_Write = some i_ref10_Write := rfl
theorem t_ref04_Check : tab n_ref04_Check = some i_ref04_Check := rfl
theorem t_ref04_Deep : tab n_ref04_Deep = some i_ref04_Deep := rfl
theorem t_ref04_Formed : tab n_ref04_Formed = some i_ref04_Formed := rfl
theorem t_ref10_long : tab n_ref10_long = some i_ref10_long := rfl
theorem t_ref10_bytes : tab n_ref10_bytes = some i_ref10_bytes := rfl
theorem t_ref14_Writer_end : tab n_ref14_Writer_end = some i_ref14_Writer_end := rfl
theorem t_law00_Code : tab n_law00_Code = some i_law00_Code := rfl
theorem t_law21_alike : tab n_law21_alike = some i_law21_alike := rfl
theorem t_net_Net_Cut : tab n_net_Net_Cut = some i_net_Net_Cut := rfl
theorem t_entry_Write : tab n_entry_Write = some i_entry_Write := rfl
theorem t_entry_writer_counts : tab n_entry_writer_counts = some i_entry_writer_counts := rfl
theorem t_coder_Number : tab n_coder_Number = some i_coder_Number := rfl
theorem t_entry_writer_entries : tab n_entry_writer_entries = some i_entry_writer_entries := rfl
theorem t_entry_writer_bytes : tab n_entry_writer_bytes = some i_entry_writer_bytes := rfl
theorem t_coder_Bytes : tab n_coder_Bytes = some i_coder_Bytes := rfl
theorem t_entry_writer_members : tab n_entry_writer_members = some i_entry_writer_members := rfl
theorem t_code_Write : tab n_code_Write = some i_code_Write := rfl
theorem t_tree_Check : tab n_tree_Check = some i_tree_Check := rfl
theorem t_tree_deep : tab n_tree_deep = some i_tree_deep := rfl
theorem t_tree_deep_1 : tab n_tree_deep_1 = some i_tree_deep_1 := rfl
theorem t_slices_ContainsFunc_sl_api_Tree_api_Tree : tab n_slices_ContainsFunc_sl_api_Tree_api_Tree = some i_slices_ContainsFunc_sl_api_Tree_api_Tree := rfl
theorem t_slices_IndexFunc_sl_api_Tree_api_Tree : tab n_slices_IndexFunc_sl_api_Tree_api_Tree = some i_slices_IndexFunc_sl_api_Tree_api_Tree := rfl
theorem t_tree_formed : tab n_tree_formed = some i_tree_formed := rfl
theorem t_tree_formed_1 : tab n_tree_formed_1 = some i_tree_formed_1 := rfl
theorem t_code_long : tab n_code_long = some i_code_long := rfl
theorem t_code_write : tab n_code_write = some i_code_write := rfl
theorem t_entry_writer_end : tab n_entry_writer_end = some i_entry_writer_end := rfl
def isLine (f t : Int) : Bool := decide (1 ≤ f ∧ f ≤ 7 ∧ 1 ≤ t ∧ t ≤ 7 ∧ f ≠ t)
def lnIx (f t : Int) : Nat := (8 * f + t).toNat
def lnKey (f t : Int) : Value := .agg #[.int .i64 f, .int .i64 t]
def upd1 {α : Type} (l : Nat → α) (k : Nat) (v : α) (i : Nat) : α := if i = k then v else l i
def RowAlone (w : World) (S : Nat → Nat → Prop) (Ω : Nat → Prop) (v : Value) (ms : List (List UInt8)) : Prop :=
 ∃ b cap arr e, v = .slice (some ⟨b, 0, none⟩) ms.length cap ∧ Ω b ∧ w.heap[b]? = some (.cells arr e (0, 0)) ∧ arr.size = cap ∧ ms.length ≤ cap ∧ cap ≤ maxLen ∧ (∀ u ∈ arr, u.oneCell' = true) ∧ (∀ j, j < ms.length → S b j) ∧ (∀ j, ms.length ≤ j → ¬ S b j) ∧ ∀ (i : Nat) (m : List UInt8), ms[i]? = some m → ∃ u, arr[i]? = some u ∧ Rep w S (.sl (eB m)) u
def rowBlk : Value → Nat
 | .slice (some a) _ _ => a.block
 | _ => 0
structure Ents (es : List MapEntry) (clock : Nat) (has : Nat → Prop) (val : Nat → Value → Prop) : Prop where
 key : ∀ e ∈ es, ∃ f t, isLine f t = true ∧ e.key = lnKey f t ∧ has (lnIx f t) ∧ val (lnIx f t) e.val
 all : ∀ f t, isLine f t = true → has (lnIx f t) → ∃ e ∈ es, e.key = lnKey f t
 one : es.Pairwise fun a b => a.key ≠ b.key
 born : es.Pairwise fun a b => a.born ≠ b.born
 old : ∀ e ∈ es, e.born < clock
def LinesAt (l : Nat → Option (List (List UInt8))) (w : World) (S : Nat → Nat → Prop) (b : Nat) (Ω : Nat → Prop) : Prop :=
 ∃ es clock, w.heap[b]? = some (.map es clock) ∧ Ents es.toList clock (fun k => (l k).isSome) (fun k v => RowAlone w S Ω v ((l k).getD [])) ∧ es.toList.Pairwise fun a c => rowBlk a.val ≠ rowBlk c.val
def FlagsAt (g : Nat → Bool) (w : World) (b : Nat) : Prop :=
 ∃ es clock, w.heap[b]? = some (.map es clock) ∧ (∀ e ∈ es.toList, ∃ f t, isLine f t = true ∧ e.key = lnKey f t ∧ e.val = .bool (g (lnIx f t))) ∧ (∀ f t, isLine f t = true → g (lnIx f t) = true → ∃ e ∈ es.toList, e.key = lnKey f t) ∧ (es.toList.Pairwise fun a c => a.key ≠ c.key) ∧ (es.toList.Pairwise fun a c => a.born ≠ c.born) ∧ ∀ e ∈ es.toList, e.born < clock
theorem RowAlone.mono {w w' : World} {S S' : Nat → Nat → Prop} {Ω : Nat → Prop} {v : Value} {ms : List (List UInt8)} (h : RowAlone w S Ω v ms) (h1 : ∀ c, Ω c → w'.heap[c]? = w.heap[c]?) (h2 : ∀ b o, S b o → S' b o ∧ w'.cell? ⟨b, o, none⟩ = w.cell? ⟨b, o, none⟩) (h3 : ∀ c o, Ω c → S' c o → S c o) : RowAlone w' S' Ω v ms := by
 obtain ⟨b, cap, arr, e, k1, k2, k3, k4, k5, k6, k7, k8, k9, k10⟩ := h
 exact ⟨b, cap, arr, e, k1, k2, (h1 b k2).trans k3, k4, k5, k6, k7, fun j hj => (h2 b j (k8 j hj)).1, fun j hj hS => k9 j hj (h3 b j k2 hS), fun i m hm => let ⟨u, hu, hr⟩ := k10 i m hm; ⟨u, hu, hr.mono h2⟩⟩
def netRel : BigRel where
 rel := fun d w S b Ω => match d with
  | .lines l => LinesAt l w S b Ω
  | .flags g => FlagsAt g w b
 mono := fun {d w w' S S' b Ω} h hb h1 h2 h3 => by
  cases d with
  | lines l =>
   obtain ⟨es, clock, k1, k3, k4⟩ := h
   refine ⟨es, clock, hb.trans k1, ⟨fun e he => ?_, k3.all, k3.one, k3.born, k3.old⟩, k4⟩
   obtain ⟨f, t, q1, q2, q3, q4⟩ := k3.key e he
   exact ⟨f, t, q1, q2, q3, q4.mono h1 h2 h3⟩
  | flags g =>
   obtain ⟨es, clock, k1, k2⟩ := h
   exact ⟨es, clock, hb.trans k1, k2⟩
 lt := fun {d w S b Ω} h => by
  cases d with
  | lines l => obtain ⟨es, clock, k1, _⟩ := h; exact (Array.getElem?_eq_some_iff.1 k1).1
  | flags g => obtain ⟨es, clock, k1, _⟩ := h; exact (Array.getElem?_eq_some_iff.1 k1).1
def inI (n : Int) : Bool := decide (-9223372036854775808 ≤ n ∧ n < 9223372036854775808)
def unB : List (List C) → Option (List UInt8)
 | [] => some []
 | [.sc (.int .u8 n)] :: r => match unB r with
  | some y => if 0 ≤ n ∧ n < 256 then some (byt n :: y) else none
  | none => none
 | _ => none
def unBs : List (List C) → Option (List (List UInt8))
 | [] => some []
 | [.sl b] :: r => match unB b, unBs r with
  | some x, some y => some (x :: y)
  | _, _ => none
 | _ => none
def netX0 : FnEv := fun f args ins =>
 if f = 2000224 then (match args, ins with
  | [.mp 0, .agg [.s (.int .i64 f), .s (.int .i64 t)]], [.big (.lines l)] => if inI f = true ∧ inI t = true then some ([.sl true (eBs (if isLine f t = true then (l (lnIx f t)).getD [] else []))], [.big (.lines l)]) else none
  | _, _ => none)
 else if f = 2000228 then (match args, ins with
  | [.mp 0, .agg [.s (.int .i64 f), .s (.int .i64 t)]], [.big (.flags g)] => if inI f = true ∧ inI t = true then some ([.s (.bool (isLine f t && g (lnIx f t)))], [.big (.flags g)]) else none
  | _, _ => none)
 else if f = 2000225 then (match args, ins with
  | [.mp 0, .agg [.s (.int .i64 f), .s (.int .i64 t)], .row 1 n], [.big (.lines l), .row e 1 o false els] => if isLine f t = true ∧ n = els.length then (match unBs els with
   | some ms => some ([.s undef], [.big (.lines (upd1 l (lnIx f t) (some ms))), .dead])
   | none => none) else none
  | _, _ => none)
 else if f = 2000229 then (match args, ins with
  | [.mp 0, .agg [.s (.int .i64 f), .s (.int .i64 t)], .s (.bool b)], [.big (.flags g)] => if isLine f t = true then some ([.s undef], [.big (.flags (upd1 g (lnIx f t) b))]) else none
  | _, _ => none)
 else if f = 2000226 then (match args, ins with
  | [], [] => some ([.mp 0], [.big (.lines fun _ => none)])
  | _, _ => none)
 else if f = 2000230 then (match args, ins with
  | [], [] => some ([.mp 0], [.big (.flags fun _ => false)])
  | _, _ => none)
 else if f = n_slices_Delete_sl_sl_byte_sl_byte then (match args, ins with
  | [.row 0 n, .s (.int .i64 i), .s (.int .i64 j)], [.row e 1 o false els] => if 0 ≤ i ∧ j = i + 1 ∧ j ≤ n ∧ n = els.length ∧ n ≤ 1048576 then some ([.row 1 (n - 1)], [.dead, .row e 1 o false (els.eraseIdx i.toNat)]) else none
  | _, _ => none)
 else none
def G0 : Cf := ⟨fun _ => [], true, netX0, netRel⟩
@[go_sem] theorem G0_gf : G0.gf = true := rfl
def lnOf : List C → Option (Int × Int)
 | _ :: .sc (.int .i64 f) :: .sc (.int .i64 t) :: _ => some (f, t)
 | _ => none
noncomputable def wrOf (e : List C) : Option (Option (List UInt8)) := match Ev tab G0 n_entry_Write [.agg (e.map (ofC true))] [] with
 | some ([.sl true b, .s .nilIface], []) => (unB b).map some
 | some ([.sl true _, .s (.iface _ _)], []) => some none
 | _ => none
noncomputable def nSend (g : Nat → Bool) : List (List C) → (Nat → Option (List (List UInt8))) → Nat → Option (Nat × (Nat → Option (List (List UInt8))))
 | [], l, n => some (n, l)
 | e :: r, l, n => match lnOf e, wrOf e with
  | some (f, t), some x => if e.length = 17 ∧ (e.all fun c => (ofC true c).cellOk) = true ∧ inI f = true ∧ inI t = true then (match x with
   | some b => if isLine f t = true ∧ g (lnIx f t) = false ∧ ((l (lnIx f t)).getD []).length < 64 then nSend g r (upd1 l (lnIx f t) (some ((l (lnIx f t)).getD [] ++ [b]))) n else nSend g r l (n + 1)
   | none => nSend g r l (n + 1)) else none
  | _, _ => none
noncomputable def netX9 : FnEv := fun f args ins =>
 if f = n_net_Net_Send then (match args, ins with
  | [.ptr 0 0, .sl true ms], [.var [.mp 1, .mp 2], .big (.lines l), .big (.flags g)] => if ms.length ≤ 1048576 ∧ szOk 17 ms = true then (match nSend g ms l 0 with
   | some (n, l') => some ([.s (.int .i64 n)], [.var [.mp 1, .mp 2], .big (.lines l'), .big (.flags g)])
   | none => none) else none
  | _, _ => none)
 else if f = n_net_Net_Clone then (match args, ins with
  | [.ptr 0 0], [.var [.mp 1, .mp 2], .big (.lines l), .big (.flags g)] => if ((List.range 64).all fun k => decide (((l k).getD []).length ≤ 1048576)) = true then some ([.ptr 3 0], [.var [.mp 1, .mp 2], .big (.lines l), .big (.flags g), .var [.mp 4, .mp 5], .big (.lines l), .big (.flags g)]) else none
  | _, _ => none)
 else netX0 f args ins
noncomputable def GN : Cf := { G0 with X := netX9 }
@[go_sem] theorem GN_gf : GN.gf = true := rfl
@[go_sem] theorem lt_code_Read_1 : (n_code_Read_1 < 1000000) = True := eq_true (by decide)
@[go_sem] theorem lt_tree_deep_1 : (n_tree_deep_1 < 1000000) = True := eq_true (by decide)
@[go_sem] theorem lt_tree_formed_1 : (n_tree_formed_1 < 1000000) = True := eq_true (by decide)
theorem ca_law21_NetFull (l : List AV) : cArgs tab n_law21_NetFull l = canonA [] l := rfl
attribute [go_sem] t_law21_NetFull ca_law21_NetFull
theorem ca_law21_up (l : List AV) : cArgs tab n_law21_up l = canonA [] l := rfl
attribute [go_sem] t_law21_up ca_law21_up
theorem ca_net_New (l : List AV) : cArgs tab n_net_New l = canonA [] l := rfl
attribute [go_sem] t_net_New ca_net_New
theorem ca_net_Net_Take (l : List AV) : cArgs tab n_net_Net_Take l = canonA [] l := rfl
attribute [go_sem] t_net_Net_Take ca_net_Net_Take
theorem ca_net_Net_at (l : List AV) : cArgs tab n_net_Net_at l = canonA [] l := rfl
attribute [go_sem] t_net_Net_at ca_net_Net_at
theorem ca_net_line (l : List AV) : cArgs tab n_net_line l = canonA [] l := rfl
attribute [go_sem] t_net_line ca_net_line
theorem ca_entry_Read (l : List AV) : cArgs tab n_entry_Read l = canonA [] l := rfl
attribute [go_sem] t_entry_Read ca_entry_Read
theorem ca_coder_NewReader (l : List AV) : cArgs tab n_coder_NewReader l = canonA [] l := rfl
attribute [go_sem] t_coder_NewReader ca_coder_NewReader
theorem ca_slices_Clone_sl_byte_byte (l : List AV) : cArgs tab n_slices_Clone_sl_byte_byte l = canonA [] l := rfl
attribute [go_sem] t_slices_Clone_sl_byte_byte ca_slices_Clone_sl_byte_byte
theorem ca_entry_reader_count (l : List AV) : cArgs tab n_entry_reader_count l = canonA [] l := rfl
attribute [go_sem] t_entry_reader_count ca_entry_reader_count
theorem ca_coder_Reader_Number (l : List AV) : cArgs tab n_coder_Reader_Number l = canonA [] l := rfl
attribute [go_sem] t_coder_Reader_Number ca_coder_Reader_Number
theorem ca_coder_Reader_Byte (l : List AV) : cArgs tab n_coder_Reader_Byte l = canonA [] l := rfl
attribute [go_sem] t_coder_Reader_Byte ca_coder_Reader_Byte
theorem ca_coder_Reader_take (l : List AV) : cArgs tab n_coder_Reader_take l = canonA [] l := rfl
attribute [go_sem] t_coder_Reader_take ca_coder_Reader_take
theorem ca_entry_reader_entries (l : List AV) : cArgs tab n_entry_reader_entries l = canonA [] l := rfl
attribute [go_sem] t_entry_reader_entries ca_entry_reader_entries
theorem ca_entry_reader_fine (l : List AV) : cArgs tab n_entry_reader_fine l = canonA [] l := rfl
attribute [go_sem] t_entry_reader_fine ca_entry_reader_fine
theorem ca_coder_Reader_End (l : List AV) : cArgs tab n_coder_Reader_End l = canonA [] l := rfl
attribute [go_sem] t_coder_Reader_End ca_coder_Reader_End
theorem ca_coder_Reader_Bytes (l : List AV) : cArgs tab n_coder_Reader_Bytes l = canonA [] l := rfl
attribute [go_sem] t_coder_Reader_Bytes ca_coder_Reader_Bytes
theorem ca_entry_reader_members (l : List AV) : cArgs tab n_entry_reader_members l = canonA [] l := rfl
attribute [go_sem] t_entry_reader_members ca_entry_reader_members
theorem ca_code_Read (l : List AV) : cArgs tab n_code_Read l = canonA [] l := rfl
attribute [go_sem] t_code_Read ca_code_Read
theorem ca_code_Read_1 (l : List AV) : cArgs tab n_code_Read_1 l = canonA [] l := rfl
attribute [go_sem] t_code_Read_1 ca_code_Read_1
theorem ca_entry_reader_end (l : List AV) : cArgs tab n_entry_reader_end l = canonA [] l := rfl
attribute [go_sem] t_entry_reader_end ca_entry_reader_end
theorem ca_slices_Clone_sl_sl_byte_sl_byte (l : List AV) : cArgs tab n_slices_Clone_sl_sl_byte_sl_byte l = canonA [] l := rfl
attribute [go_sem] t_slices_Clone_sl_sl_byte_sl_byte ca_slices_Clone_sl_sl_byte_sl_byte
theorem ca_law21_pick (l : List AV) : cArgs tab n_law21_pick l = canonA [] l := rfl
attribute [go_sem] t_law21_pick ca_law21_pick
theorem ca_net_Net_Double (l : List AV) : cArgs tab n_net_Net_Double l = canonA [] l := rfl
attribute [go_sem] t_net_Net_Double ca_net_Net_Double
theorem ca_net_Net_Len (l : List AV) : cArgs tab n_net_Net_Len l = canonA [] l := rfl
attribute [go_sem] t_net_Net_Len ca_net_Net_Len
theorem ca_law21_NetPlays (l : List AV) : cArgs tab n_law21_NetPlays l = canonA [] l := rfl
attribute [go_sem] t_law21_NetPlays ca_law21_NetPlays
theorem ca_law21_small (l : List AV) : cArgs tab n_law21_small l = canonA [] l := rfl
attribute [go_sem] t_law21_small ca_law21_small
theorem ca_ref04_Light (l : List AV) : cArgs tab n_ref04_Light l = canonA [] l := rfl
attribute [go_sem] t_ref04_Light ca_ref04_Light
theorem ca_net_Net_Line (l : List AV) : cArgs tab n_net_Net_Line l = canonA [] l := rfl
attribute [go_sem] t_net_Net_Line ca_net_Net_Line
theorem ca_law21_play (l : List AV) : cArgs tab n_law21_play l = canonA [] l := rfl
attribute [go_sem] t_law21_play ca_law21_play
theorem ca_law21_at (l : List AV) : cArgs tab n_law21_at l = canonA [] l := rfl
attribute [go_sem] t_law21_at ca_law21_at
theorem ca_law21_model_asked (l : List AV) : cArgs tab n_law21_model_asked l = canonA [] l := rfl
attribute [go_sem] t_law21_model_asked ca_law21_model_asked
theorem ca_law21_model_send (l : List AV) : cArgs tab n_law21_model_send l = canonA [] l := rfl
attribute [go_sem] t_law21_model_send ca_law21_model_send
theorem ca_ref14_Write (l : List AV) : cArgs tab n_ref14_Write l = canonA [] l := rfl
attribute [go_sem] t_ref14_Write ca_ref14_Write
theorem ca_ref14_Writer_count (l : List AV) : cArgs tab n_ref14_Writer_count l = canonA [] l := rfl
attribute [go_sem] t_ref14_Writer_count ca_ref14_Writer_count
theorem ca_ref02_Number (l : List AV) : cArgs tab n_ref02_Number l = canonA [] l := rfl
attribute [go_sem] t_ref02_Number ca_ref02_Number
theorem ca_ref14_Writer_entries (l : List AV) : cArgs tab n_ref14_Writer_entries l = canonA [] l := rfl
attribute [go_sem] t_ref14_Writer_entries ca_ref14_Writer_entries
theorem ca_ref14_Writer_bytes (l : List AV) : cArgs tab n_ref14_Writer_bytes l = canonA [] l := rfl
attribute [go_sem] t_ref14_Writer_bytes ca_ref14_Writer_bytes
theorem ca_ref02_Bytes (l : List AV) : cArgs tab n_ref02_Bytes l = canonA [] l := rfl
attribute [go_sem] t_ref02_Bytes ca_ref02_Bytes
theorem ca_ref14_Writer_members (l : List AV) : cArgs tab n_ref14_Writer_members l = canonA [] l := rfl
attribute [go_sem] t_ref14_Writer_members ca_ref14_Writer_members
theorem ca_ref10_Write (l : List AV) : cArgs tab n_ref10_Write l = canonA [] l := rfl
attribute [go_sem] t_ref10_Write ca_ref10_Write
theorem ca_ref04_Check (l : List AV) : cArgs tab n_ref04_Check l = canonA [] l := rfl
attribute [go_sem] t_ref04_Check ca_ref04_Check
theorem ca_ref04_Deep (l : List AV) : cArgs tab n_ref04_Deep l = canonA [] l := rfl
attribute [go_sem] t_ref04_Deep ca_ref04_Deep
theorem ca_ref04_Formed (l : List AV) : cArgs tab n_ref04_Formed l = canonA [] l := rfl
attribute [go_sem] t_ref04_Formed ca_ref04_Formed
theorem ca_ref10_long (l : List AV) : cArgs tab n_ref10_long l = canonA [] l := rfl
attribute [go_sem] t_ref10_long ca_ref10_long
theorem ca_ref10_bytes (l : List AV) : cArgs tab n_ref10_bytes l = canonA [] l := rfl
attribute [go_sem] t_ref10_bytes ca_ref10_bytes
theorem ca_ref14_Writer_end (l : List AV) : cArgs tab n_ref14_Writer_end l = canonA [] l := rfl
attribute [go_sem] t_ref14_Writer_end ca_ref14_Writer_end
theorem ca_law00_Code (l : List AV) : cArgs tab n_law00_Code l = canonA [] l := rfl
attribute [go_sem] t_law00_Code ca_law00_Code
theorem ca_law21_alike (l : List AV) : cArgs tab n_law21_alike l = canonA [] l := rfl
attribute [go_sem] t_law21_alike ca_law21_alike
theorem ca_net_Net_Cut (l : List AV) : cArgs tab n_net_Net_Cut l = canonA [] l := rfl
attribute [go_sem] t_net_Net_Cut ca_net_Net_Cut
theorem ca_entry_Write (l : List AV) : cArgs tab n_entry_Write l = canonA [] l := rfl
attribute [go_sem] t_entry_Write ca_entry_Write
theorem ca_entry_writer_counts (l : List AV) : cArgs tab n_entry_writer_counts l = canonA [] l := rfl
attribute [go_sem] t_entry_writer_counts ca_entry_writer_counts
theorem ca_coder_Number (l : List AV) : cArgs tab n_coder_Number l = canonA [] l := rfl
attribute [go_sem] t_coder_Number ca_coder_Number
theorem ca_entry_writer_entries (l : List AV) : cArgs tab n_entry_writer_entries l = canonA [] l := rfl
attribute [go_sem] t_entry_writer_entries ca_entry_writer_entries
theorem ca_entry_writer_bytes (l : List AV) : cArgs tab n_entry_writer_bytes l = canonA [] l := rfl
attribute [go_sem] t_entry_writer_bytes ca_entry_writer_bytes
theorem ca_coder_Bytes (l : List AV) : cArgs tab n_coder_Bytes l = canonA [] l := rfl
attribute [go_sem] t_coder_Bytes ca_coder_Bytes
theorem ca_entry_writer_members (l : List AV) : cArgs tab n_entry_writer_members l = canonA [] l := rfl
attribute [go_sem] t_entry_writer_members ca_entry_writer_members
theorem ca_code_Write (l : List AV) : cArgs tab n_code_Write l = canonA [] l := rfl
attribute [go_sem] t_code_Write ca_code_Write
theorem ca_tree_Check (l : List AV) : cArgs tab n_tree_Check l = canonA [] l := rfl
attribute [go_sem] t_tree_Check ca_tree_Check
theorem ca_tree_deep (l : List AV) : cArgs tab n_tree_deep l = canonA [] l := rfl
attribute [go_sem] t_tree_deep ca_tree_deep
theorem ca_tree_deep_1 (l : List AV) : cArgs tab n_tree_deep_1 l = canonA [] l := rfl
attribute [go_sem] t_tree_deep_1 ca_tree_deep_1
theorem ca_slices_ContainsFunc_sl_api_Tree_api_Tree (l : List AV) : cArgs tab n_slices_ContainsFunc_sl_api_Tree_api_Tree l = canonA [] l := rfl
attribute [go_sem] t_slices_ContainsFunc_sl_api_Tree_api_Tree ca_slices_ContainsFunc_sl_api_Tree_api_Tree
theorem ca_slices_IndexFunc_sl_api_Tree_api_Tree (l : List AV) : cArgs tab n_slices_IndexFunc_sl_api_Tree_api_Tree l = canonA [] l := rfl
attribute [go_sem] t_slices_IndexFunc_sl_api_Tree_api_Tree ca_slices_IndexFunc_sl_api_Tree_api_Tree
theorem ca_tree_formed (l : List AV) : cArgs tab n_tree_formed l = canonA [] l := rfl
attribute [go_sem] t_tree_formed ca_tree_formed
theorem ca_tree_formed_1 (l : List AV) : cArgs tab n_tree_formed_1 l = canonA [] l := rfl
attribute [go_sem] t_tree_formed_1 ca_tree_formed_1
theorem ca_code_long (l : List AV) : cArgs tab n_code_long l = canonA [] l := rfl
attribute [go_sem] t_code_long ca_code_long
theorem ca_code_write (l : List AV) : cArgs tab n_code_write l = canonA [i_,o_] l := rfl
attribute [go_sem] t_code_write ca_code_write
theorem ca_entry_writer_end (l : List AV) : cArgs tab n_entry_writer_end l = canonA [] l := rfl
attribute [go_sem] t_entry_writer_end ca_entry_writer_end
@[go_sem] theorem kl_law21_NetFull_r : i_law21_NetFull_r.length = 146 := by kernel_rfl
@[go_sem] theorem kl_law21_NetFull_j1 : i_law21_NetFull_j1.length = 146 := by kernel_rfl
@[go_sem] theorem kl_law21_NetFull_k0 : i_law21_NetFull_k0.length = 146 := by kernel_rfl
@[go_sem] theorem kl_law21_NetFull_j0 : i_law21_NetFull_j0.length = 146 := by kernel_rfl
@[go_sem] theorem kl_law21_up_r : i_law21_up_r.length = 41 := rfl
@[go_sem] theorem kl_net_New_r : i_net_New_r.length = 5 := rfl
@[go_sem] theorem kl_net_Net_Take_r : i_net_Net_Take_r.length = 51 := rfl
@[go_sem] theorem kl_net_Net_at_r : i_net_Net_at_r.length = 36 := rfl
@[go_sem] theorem kl_net_Net_at_j0 : i_net_Net_at_j0.length = 36 := rfl
@[go_sem] theorem kl_net_line_r : i_net_line_r.length = 24 := rfl
@[go_sem] theorem kl_entry_Read_r : i_entry_Read_r.length = 97 := rfl
@[go_sem] theorem kl_coder_NewReader_r : i_coder_NewReader_r.length = 7 := rfl
@[go_sem] theorem kl_slices_Clone_sl_byte_byte_r : i_slices_Clone_sl_byte_byte_r.length = 8 := rfl
@[go_sem] theorem kl_entry_reader_count_r : i_entry_reader_count_r.length = 16 := rfl
@[go_sem] theorem kl_coder_Reader_Number_r : i_coder_Reader_Number_r.length = 48 := rfl
@[go_sem] theorem kl_coder_Reader_Number_j1 : i_coder_Reader_Number_j1.length = 48 := rfl
@[go_sem] theorem kl_coder_Reader_Number_k0 : i_coder_Reader_Number_k0.length = 48 := rfl
@[go_sem] theorem kl_coder_Reader_Number_j0 : i_coder_Reader_Number_j0.length = 48 := rfl
@[go_sem] theorem kl_coder_Reader_Byte_r : i_coder_Reader_Byte_r.length = 12 := rfl
@[go_sem] theorem kl_coder_Reader_take_r : i_coder_Reader_take_r.length = 39 := rfl
@[go_sem] theorem kl_entry_reader_entries_r : i_entry_reader_entries_r.length = 29 := rfl
@[go_sem] theorem kl_entry_reader_entries_j1 : i_entry_reader_entries_j1.length = 29 := rfl
@[go_sem] theorem kl_entry_reader_entries_k0 : i_entry_reader_entries_k0.length = 29 := rfl
@[go_sem] theorem kl_entry_reader_entries_j0 : i_entry_reader_entries_j0.length = 29 := rfl
@[go_sem] theorem kl_entry_reader_fine_r : i_entry_reader_fine_r.length = 17 := rfl
@[go_sem] theorem kl_coder_Reader_End_r : i_coder_Reader_End_r.length = 17 := rfl
@[go_sem] theorem kl_coder_Reader_End_j0 : i_coder_Reader_End_j0.length = 17 := rfl
@[go_sem] theorem kl_coder_Reader_Bytes_r : i_coder_Reader_Bytes_r.length = 39 := rfl
@[go_sem] theorem kl_entry_reader_members_r : i_entry_reader_members_r.length = 21 := rfl
@[go_sem] theorem kl_entry_reader_members_j1 : i_entry_reader_members_j1.length = 21 := rfl
@[go_sem] theorem kl_entry_reader_members_k0 : i_entry_reader_members_k0.length = 21 := rfl
@[go_sem] theorem kl_entry_reader_members_j0 : i_entry_reader_members_j0.length = 21 := rfl
@[go_sem] theorem kl_code_Read_r : i_code_Read_r.length = 31 := rfl
@[go_sem] theorem kl_code_Read_j0 : i_code_Read_j0.length = 31 := rfl
@[go_sem] theorem kl_code_Read_1_r : i_code_Read_1_r.length = 64 := rfl
@[go_sem] theorem kl_code_Read_1_j0 : i_code_Read_1_j0.length = 64 := rfl
@[go_sem] theorem kl_entry_reader_end_r : i_entry_reader_end_r.length = 12 := rfl
@[go_sem] theorem kl_slices_Clone_sl_sl_byte_sl_byte_r : i_slices_Clone_sl_sl_byte_sl_byte_r.length = 8 := rfl
@[go_sem] theorem kl_law21_pick_r : i_law21_pick_r.length = 13 := rfl
@[go_sem] theorem kl_net_Net_Double_r : i_net_Net_Double_r.length = 43 := rfl
@[go_sem] theorem kl_net_Net_Double_j0 : i_net_Net_Double_j0.length = 43 := rfl
@[go_sem] theorem kl_net_Net_Len_r : i_net_Net_Len_r.length = 16 := rfl
@[go_sem] theorem kl_law21_NetPlays_r : i_law21_NetPlays_r.length = 77 := rfl
@[go_sem] theorem kl_law21_NetPlays_j1 : i_law21_NetPlays_j1.length = 77 := rfl
@[go_sem] theorem kl_law21_NetPlays_k0 : i_law21_NetPlays_k0.length = 77 := rfl
@[go_sem] theorem kl_law21_NetPlays_j0 : i_law21_NetPlays_j0.length = 77 := rfl
@[go_sem] theorem kl_law21_small_r : i_law21_small_r.length = 69 := rfl
@[go_sem] theorem kl_law21_small_j3 : i_law21_small_j3.length = 69 := rfl
@[go_sem] theorem kl_law21_small_k1 : i_law21_small_k1.length = 69 := rfl
@[go_sem] theorem kl_law21_small_j2 : i_law21_small_j2.length = 69 := rfl
@[go_sem] theorem kl_law21_small_j1 : i_law21_small_j1.length = 69 := rfl
@[go_sem] theorem kl_law21_small_k0 : i_law21_small_k0.length = 69 := rfl
@[go_sem] theorem kl_law21_small_j0 : i_law21_small_j0.length = 69 := rfl
@[go_sem] theorem kl_ref04_Light_r : i_ref04_Light_r.length = 60 := rfl
@[go_sem] theorem kl_ref04_Light_j1 : i_ref04_Light_j1.length = 60 := rfl
@[go_sem] theorem kl_ref04_Light_k0 : i_ref04_Light_k0.length = 60 := rfl
@[go_sem] theorem kl_ref04_Light_j0 : i_ref04_Light_j0.length = 60 := rfl
@[go_sem] theorem kl_net_Net_Line_r : i_net_Net_Line_r.length = 22 := rfl
@[go_sem] theorem kl_law21_play_r : i_law21_play_r.length = 213 := by kernel_rfl
@[go_sem] theorem kl_law21_play_j0 : i_law21_play_j0.length = 213 := by kernel_rfl
@[go_sem] theorem kl_law21_at_r : i_law21_at_r.length = 28 := rfl
@[go_sem] theorem kl_law21_model_asked_r : i_law21_model_asked_r.length = 29 := rfl
@[go_sem] theorem kl_law21_model_send_r : i_law21_model_send_r.length = 82 := rfl
@[go_sem] theorem kl_law21_model_send_j1 : i_law21_model_send_j1.length = 82 := rfl
@[go_sem] theorem kl_law21_model_send_k0 : i_law21_model_send_k0.length = 82 := rfl
@[go_sem] theorem kl_law21_model_send_j0 : i_law21_model_send_j0.length = 82 := rfl
@[go_sem] theorem kl_ref14_Write_r : i_ref14_Write_r.length = 92 := rfl
@[go_sem] theorem kl_ref14_Write_j1 : i_ref14_Write_j1.length = 92 := rfl
@[go_sem] theorem kl_ref14_Write_k0 : i_ref14_Write_k0.length = 92 := rfl
@[go_sem] theorem kl_ref14_Write_j0 : i_ref14_Write_j0.length = 92 := rfl
@[go_sem] theorem kl_ref14_Writer_count_r : i_ref14_Writer_count_r.length = 24 := rfl
@[go_sem] theorem kl_ref02_Number_r : i_ref02_Number_r.length = 26 := rfl
@[go_sem] theorem kl_ref02_Number_j1 : i_ref02_Number_j1.length = 26 := rfl
@[go_sem] theorem kl_ref02_Number_k0 : i_ref02_Number_k0.length = 26 := rfl
@[go_sem] theorem kl_ref02_Number_j0 : i_ref02_Number_j0.length = 26 := rfl
@[go_sem] theorem kl_ref14_Writer_entries_r : i_ref14_Writer_entries_r.length = 36 := rfl
@[go_sem] theorem kl_ref14_Writer_entries_j1 : i_ref14_Writer_entries_j1.length = 36 := rfl
@[go_sem] theorem kl_ref14_Writer_entries_k0 : i_ref14_Writer_entries_k0.length = 36 := rfl
@[go_sem] theorem kl_ref14_Writer_entries_j0 : i_ref14_Writer_entries_j0.length = 36 := rfl
@[go_sem] theorem kl_ref14_Writer_bytes_r : i_ref14_Writer_bytes_r.length = 23 := rfl
@[go_sem] theorem kl_ref02_Bytes_r : i_ref02_Bytes_r.length = 9 := rfl
@[go_sem] theorem kl_ref14_Writer_members_r : i_ref14_Writer_members_r.length = 21 := rfl
@[go_sem] theorem kl_ref14_Writer_members_j1 : i_ref14_Writer_members_j1.length = 21 := rfl
@[go_sem] theorem kl_ref14_Writer_members_k0 : i_ref14_Writer_members_k0.length = 21 := rfl
@[go_sem] theorem kl_ref14_Writer_members_j0 : i_ref14_Writer_members_j0.length = 21 := rfl
@[go_sem] theorem kl_ref10_Write_r : i_ref10_Write_r.length = 16 := rfl
@[go_sem] theorem kl_ref04_Check_r : i_ref04_Check_r.length = 12 := rfl
@[go_sem] theorem kl_ref04_Deep_r : i_ref04_Deep_r.length = 43 := rfl
@[go_sem] theorem kl_ref04_Deep_j1 : i_ref04_Deep_j1.length = 43 := rfl
@[go_sem] theorem kl_ref04_Deep_k0 : i_ref04_Deep_k0.length = 43 := rfl
@[go_sem] theorem kl_ref04_Deep_j0 : i_ref04_Deep_j0.length = 43 := rfl
@[go_sem] theorem kl_ref04_Formed_r : i_ref04_Formed_r.length = 94 := rfl
@[go_sem] theorem kl_ref04_Formed_j0 : i_ref04_Formed_j0.length = 94 := rfl
@[go_sem] theorem kl_ref04_Formed_j2 : i_ref04_Formed_j2.length = 94 := rfl
@[go_sem] theorem kl_ref04_Formed_k0 : i_ref04_Formed_k0.length = 94 := rfl
@[go_sem] theorem kl_ref04_Formed_j1 : i_ref04_Formed_j1.length = 94 := rfl
@[go_sem] theorem kl_ref10_long_r : i_ref10_long_r.length = 23 := rfl
@[go_sem] theorem kl_ref10_long_j1 : i_ref10_long_j1.length = 23 := rfl
@[go_sem] theorem kl_ref10_long_k0 : i_ref10_long_k0.length = 23 := rfl
@[go_sem] theorem kl_ref10_long_j0 : i_ref10_long_j0.length = 23 := rfl
@[go_sem] theorem kl_ref10_bytes_r : i_ref10_bytes_r.length = 54 := rfl
@[go_sem] theorem kl_ref10_bytes_j1 : i_ref10_bytes_j1.length = 54 := rfl
@[go_sem] theorem kl_ref10_bytes_k0 : i_ref10_bytes_k0.length = 54 := rfl
@[go_sem] theorem kl_ref10_bytes_j0 : i_ref10_bytes_j0.length = 54 := rfl
@[go_sem] theorem kl_ref14_Writer_end_r : i_ref14_Writer_end_r.length = 18 := rfl
@[go_sem] theorem kl_law00_Code_r : i_law00_Code_r.length = 15 := rfl
@[go_sem] theorem kl_law00_Code_j1 : i_law00_Code_j1.length = 15 := rfl
@[go_sem] theorem kl_law00_Code_k0 : i_law00_Code_k0.length = 15 := rfl
@[go_sem] theorem kl_law00_Code_j0 : i_law00_Code_j0.length = 15 := rfl
@[go_sem] theorem kl_law21_alike_r : i_law21_alike_r.length = 60 := rfl
@[go_sem] theorem kl_law21_alike_j3 : i_law21_alike_j3.length = 60 := rfl
@[go_sem] theorem kl_law21_alike_k1 : i_law21_alike_k1.length = 60 := rfl
@[go_sem] theorem kl_law21_alike_j2 : i_law21_alike_j2.length = 60 := rfl
@[go_sem] theorem kl_law21_alike_j1 : i_law21_alike_j1.length = 60 := rfl
@[go_sem] theorem kl_law21_alike_k0 : i_law21_alike_k0.length = 60 := rfl
@[go_sem] theorem kl_law21_alike_j0 : i_law21_alike_j0.length = 60 := rfl
@[go_sem] theorem kl_net_Net_Cut_r : i_net_Net_Cut_r.length = 21 := rfl
@[go_sem] theorem kl_entry_Write_r : i_entry_Write_r.length = 82 := rfl
@[go_sem] theorem kl_entry_writer_counts_r : i_entry_writer_counts_r.length = 33 := rfl
@[go_sem] theorem kl_entry_writer_counts_j1 : i_entry_writer_counts_j1.length = 33 := rfl
@[go_sem] theorem kl_entry_writer_counts_k0 : i_entry_writer_counts_k0.length = 33 := rfl
@[go_sem] theorem kl_entry_writer_counts_j0 : i_entry_writer_counts_j0.length = 33 := rfl
@[go_sem] theorem kl_coder_Number_r : i_coder_Number_r.length = 43 := rfl
@[go_sem] theorem kl_coder_Number_j1 : i_coder_Number_j1.length = 43 := rfl
@[go_sem] theorem kl_coder_Number_k0 : i_coder_Number_k0.length = 43 := rfl
@[go_sem] theorem kl_coder_Number_j0 : i_coder_Number_j0.length = 43 := rfl
@[go_sem] theorem kl_coder_Number_j3 : i_coder_Number_j3.length = 43 := rfl
@[go_sem] theorem kl_coder_Number_k1 : i_coder_Number_k1.length = 43 := rfl
@[go_sem] theorem kl_coder_Number_j2 : i_coder_Number_j2.length = 43 := rfl
@[go_sem] theorem kl_entry_writer_entries_r : i_entry_writer_entries_r.length = 29 := rfl
@[go_sem] theorem kl_entry_writer_entries_j1 : i_entry_writer_entries_j1.length = 29 := rfl
@[go_sem] theorem kl_entry_writer_entries_k0 : i_entry_writer_entries_k0.length = 29 := rfl
@[go_sem] theorem kl_entry_writer_entries_j0 : i_entry_writer_entries_j0.length = 29 := rfl
@[go_sem] theorem kl_entry_writer_bytes_r : i_entry_writer_bytes_r.length = 34 := rfl
@[go_sem] theorem kl_coder_Bytes_r : i_coder_Bytes_r.length = 9 := rfl
@[go_sem] theorem kl_entry_writer_members_r : i_entry_writer_members_r.length = 12 := rfl
@[go_sem] theorem kl_code_Write_r : i_code_Write_r.length = 15 := rfl
@[go_sem] theorem kl_tree_Check_r : i_tree_Check_r.length = 12 := rfl
@[go_sem] theorem kl_tree_Check_j0 : i_tree_Check_j0.length = 12 := rfl
@[go_sem] theorem kl_tree_deep_r : i_tree_deep_r.length = 29 := rfl
@[go_sem] theorem kl_tree_deep_1_r : i_tree_deep_1_r.length = 8 := rfl
@[go_sem] theorem kl_slices_ContainsFunc_sl_api_Tree_api_Tree_r : i_slices_ContainsFunc_sl_api_Tree_api_Tree_r.length = 9 := rfl
@[go_sem] theorem kl_slices_IndexFunc_sl_api_Tree_api_Tree_r : i_slices_IndexFunc_sl_api_Tree_api_Tree_r.length = 19 := rfl
@[go_sem] theorem kl_slices_IndexFunc_sl_api_Tree_api_Tree_j1 : i_slices_IndexFunc_sl_api_Tree_api_Tree_j1.length = 19 := rfl
@[go_sem] theorem kl_slices_IndexFunc_sl_api_Tree_api_Tree_k0 : i_slices_IndexFunc_sl_api_Tree_api_Tree_k0.length = 19 := rfl
@[go_sem] theorem kl_slices_IndexFunc_sl_api_Tree_api_Tree_j0 : i_slices_IndexFunc_sl_api_Tree_api_Tree_j0.length = 19 := rfl
@[go_sem] theorem kl_tree_formed_r : i_tree_formed_r.length = 87 := rfl
@[go_sem] theorem kl_tree_formed_j0 : i_tree_formed_j0.length = 87 := rfl
@[go_sem] theorem kl_tree_formed_1_r : i_tree_formed_1_r.length = 6 := rfl
@[go_sem] theorem kl_code_long_r : i_code_long_r.length = 19 := rfl
@[go_sem] theorem kl_code_long_j1 : i_code_long_j1.length = 19 := rfl
@[go_sem] theorem kl_code_long_k0 : i_code_long_k0.length = 19 := rfl
@[go_sem] theorem kl_code_long_j0 : i_code_long_j0.length = 19 := rfl
@[go_sem] theorem kl_code_write_r : i_code_write_r.length = 56 := rfl
@[go_sem] theorem kl_code_write_j0 : i_code_write_j0.length = 56 := rfl
@[go_sem] theorem kl_code_write_j2 : i_code_write_j2.length = 56 := rfl
@[go_sem] theorem kl_code_write_k0 : i_code_write_k0.length = 56 := rfl
@[go_sem] theorem kl_code_write_j1 : i_code_write_j1.length = 56 := rfl
@[go_sem] theorem kl_entry_writer_end_r : i_entry_writer_end_r.length = 22 := rfl
@[go_sem] theorem kl_entry_writer_end_j0 : i_entry_writer_end_j0.length = 22 := rfl
@[go_sem] theorem kt_law21_NetFull_r (l : List AV) : keepT i_law21_NetFull_r l = kp 139 [o_,o_,o_,o_,o_,o_,i_] l := kp_eq _ _ _
@[go_sem] theorem kt_law21_NetFull_j1 (l : List AV) : keepT i_law21_NetFull_j1 l = kp 136 [i_,i_,i_,o_,o_,o_,o_,i_,i_,i_] l := kp_eq _ _ _
@[go_sem] theorem kt_law21_NetFull_k0 (l : List AV) : keepT i_law21_NetFull_k0 l = kp 136 [i_,i_,i_,o_,o_,o_,o_,i_,i_,i_] l := kp_eq _ _ _
@[go_sem] theorem kt_law21_NetFull_j0 (l : List AV) : keepT i_law21_NetFull_j0 l = kp 137 [i_,i_,i_,o_,o_,o_,o_,i_,i_] l := kp_eq _ _ _
@[go_sem] theorem kt_law21_up_r (l : List AV) : keepT i_law21_up_r l = kp 40 [i_] l := kp_eq _ _ _
@[go_sem] theorem kt_net_New_r (l : List AV) : keepT i_net_New_r l = kp 4 [i_] l := kp_eq _ _ _
@[go_sem] theorem kt_net_Net_Take_r (l : List AV) : keepT i_net_Net_Take_r l = kp 41 [o_,o_,o_,o_,o_,o_,o_,o_,i_,i_] l := kp_eq _ _ _
@[go_sem] theorem kt_net_Net_at_r (l : List AV) : keepT i_net_Net_at_r l = kp 26 [o_,o_,o_,o_,o_,o_,o_,o_,i_,i_] l := kp_eq _ _ _
@[go_sem] theorem kt_net_Net_at_j0 (l : List AV) : keepT i_net_Net_at_j0 l = kp 25 [o_,o_,o_,o_,o_,o_,o_,o_,o_,o_,i_] l := kp_eq _ _ _
@[go_sem] theorem kt_net_line_r (l : List AV) : keepT i_net_line_r l = kp 19 [o_,o_,o_,o_,i_] l := kp_eq _ _ _
@[go_sem] theorem kt_entry_Read_r (l : List AV) : keepT i_entry_Read_r l = kp 93 [o_,o_,i_,i_] l := kp_eq _ _ _
@[go_sem] theorem kt_coder_NewReader_r (l : List AV) : keepT i_coder_NewReader_r l = kp 4 [o_,o_,i_] l := kp_eq _ _ _
@[go_sem] theorem kt_slices_Clone_sl_byte_byte_r (l : List AV) : keepT i_slices_Clone_sl_byte_byte_r l = kp 5 [o_,o_,i_] l := kp_eq _ _ _
@[go_sem] theorem kt_entry_reader_count_r (l : List AV) : keepT i_entry_reader_count_r l = kp 13 [o_,o_,i_] l := kp_eq _ _ _
@[go_sem] theorem kt_coder_Reader_Number_r (l : List AV) : keepT i_coder_Reader_Number_r l = kp 45 [o_,o_,i_] l := kp_eq _ _ _
@[go_sem] theorem kt_coder_Reader_Number_j1 (l : List AV) : keepT i_coder_Reader_Number_j1 l = kp 26 [i_,o_,o_,o_,i_,i_,o_,o_,o_,o_,o_,o_,o_,o_,o_,o_,o_,o_,o_,i_,i_,i_] l := kp_eq _ _ _
@[go_sem] theorem kt_coder_Reader_Number_k0 (l : List AV) : keepT i_coder_Reader_Number_k0 l = kp 26 [i_,o_,o_,o_,i_,i_,o_,o_,o_,o_,o_,o_,o_,o_,o_,o_,o_,o_,o_,i_,i_,i_] l := kp_eq _ _ _
@[go_sem] theorem kt_coder_Reader_Number_j0 (l : List AV) : keepT i_coder_Reader_Number_j0 l = kp 42 [i_,o_,o_,o_,i_,i_] l := kp_eq _ _ _
@[go_sem] theorem kt_coder_Reader_Byte_r (l : List AV) : keepT i_coder_Reader_Byte_r l = kp 9 [o_,o_,i_] l := kp_eq _ _ _
@[go_sem] theorem kt_coder_Reader_take_r (l : List AV) : keepT i_coder_Reader_take_r l = kp 34 [o_,o_,o_,o_,i_] l := kp_eq _ _ _
@[go_sem] theorem kt_entry_reader_entries_r (l : List AV) : keepT i_entry_reader_entries_r l = kp 26 [o_,o_,i_] l := kp_eq _ _ _
@[go_sem] theorem kt_entry_reader_entries_j1 (l : List AV) : keepT i_entry_reader_entries_j1 l = kp 24 [i_,o_,o_,i_,i_] l := kp_eq _ _ _
@[go_sem] theorem kt_entry_reader_entries_k0 (l : List AV) : keepT i_entry_reader_entries_k0 l = kp 24 [i_,o_,o_,i_,i_] l := kp_eq _ _ _
@[go_sem] theorem kt_entry_reader_entries_j0 (l : List AV) : keepT i_entry_reader_entries_j0 l = kp 25 [o_,o_,o_,i_] l := kp_eq _ _ _
@[go_sem] theorem kt_entry_reader_fine_r (l : List AV) : keepT i_entry_reader_fine_r l = kp 14 [o_,o_,i_] l := kp_eq _ _ _
@[go_sem] theorem kt_coder_Reader_End_r (l : List AV) : keepT i_coder_Reader_End_r l = kp 14 [o_,o_,i_] l := kp_eq _ _ _
@[go_sem] theorem kt_coder_Reader_End_j0 (l : List AV) : keepT i_coder_Reader_End_j0 l = kp 17 [] l := kp_eq _ _ _
@[go_sem] theorem kt_coder_Reader_Bytes_r (l : List AV) : keepT i_coder_Reader_Bytes_r l = kp 34 [o_,o_,o_,o_,i_] l := kp_eq _ _ _
@[go_sem] theorem kt_entry_reader_members_r (l : List AV) : keepT i_entry_reader_members_r l = kp 18 [o_,o_,i_] l := kp_eq _ _ _
@[go_sem] theorem kt_entry_reader_members_j1 (l : List AV) : keepT i_entry_reader_members_j1 l = kp 16 [i_,o_,o_,i_,i_] l := kp_eq _ _ _
@[go_sem] theorem kt_entry_reader_members_k0 (l : List AV) : keepT i_entry_reader_members_k0 l = kp 16 [i_,o_,o_,i_,i_] l := kp_eq _ _ _
@[go_sem] theorem kt_entry_reader_members_j0 (l : List AV) : keepT i_entry_reader_members_j0 l = kp 17 [o_,o_,o_,i_] l := kp_eq _ _ _
@[go_sem] theorem kt_code_Read_r (l : List AV) : keepT i_code_Read_r l = kp 27 [o_,o_,i_,i_] l := kp_eq _ _ _
@[go_sem] theorem kt_code_Read_j0 (l : List AV) : keepT i_code_Read_j0 l = kp 23 [o_,o_,i_,o_,o_,o_,o_,i_] l := kp_eq _ _ _
@[go_sem] theorem kt_code_Read_1_r (l : List AV) : keepT i_code_Read_1_r l = kp 58 [o_,o_,o_,o_,o_,i_] l := kp_eq _ _ _
@[go_sem] theorem kt_code_Read_1_j0 (l : List AV) : keepT i_code_Read_1_j0 l = kp 57 [i_,i_,i_,i_,o_,i_,i_] l := kp_eq _ _ _
@[go_sem] theorem kt_entry_reader_end_r (l : List AV) : keepT i_entry_reader_end_r l = kp 9 [o_,o_,i_] l := kp_eq _ _ _
@[go_sem] theorem kt_slices_Clone_sl_sl_byte_sl_byte_r (l : List AV) : keepT i_slices_Clone_sl_sl_byte_sl_byte_r l = kp 5 [o_,o_,i_] l := kp_eq _ _ _
@[go_sem] theorem kt_law21_pick_r (l : List AV) : keepT i_law21_pick_r l = kp 8 [o_,o_,o_,o_,i_] l := kp_eq _ _ _
@[go_sem] theorem kt_net_Net_Double_r (l : List AV) : keepT i_net_Net_Double_r l = kp 34 [o_,o_,o_,o_,o_,o_,o_,o_,i_] l := kp_eq _ _ _
@[go_sem] theorem kt_net_Net_Double_j0 (l : List AV) : keepT i_net_Net_Double_j0 l = kp 33 [i_,i_,i_,i_,o_,o_,o_,o_,o_,i_] l := kp_eq _ _ _
@[go_sem] theorem kt_net_Net_Len_r (l : List AV) : keepT i_net_Net_Len_r l = kp 9 [o_,o_,o_,o_,o_,o_,i_] l := kp_eq _ _ _
@[go_sem] theorem kt_law21_NetPlays_r (l : List AV) : keepT i_law21_NetPlays_r l = kp 74 [o_,o_,i_] l := kp_eq _ _ _
@[go_sem] theorem kt_law21_NetPlays_j1 (l : List AV) : keepT i_law21_NetPlays_j1 l = kp 70 [i_,o_,o_,i_,i_,i_,i_] l := kp_eq _ _ _
@[go_sem] theorem kt_law21_NetPlays_k0 (l : List AV) : keepT i_law21_NetPlays_k0 l = kp 70 [i_,o_,o_,i_,i_,i_,i_] l := kp_eq _ _ _
@[go_sem] theorem kt_law21_NetPlays_j0 (l : List AV) : keepT i_law21_NetPlays_j0 l = kp 71 [o_,o_,o_,i_,i_,i_] l := kp_eq _ _ _
@[go_sem] theorem kt_law21_small_r (l : List AV) : keepT i_law21_small_r l = kp 66 [o_,o_,i_] l := kp_eq _ _ _
@[go_sem] theorem kt_law21_small_j3 (l : List AV) : keepT i_law21_small_j3 l = kp 64 [i_,o_,o_,i_,i_] l := kp_eq _ _ _
@[go_sem] theorem kt_law21_small_k1 (l : List AV) : keepT i_law21_small_k1 l = kp 64 [i_,o_,o_,i_,i_] l := kp_eq _ _ _
@[go_sem] theorem kt_law21_small_j2 (l : List AV) : keepT i_law21_small_j2 l = kp 65 [i_,o_,o_,i_] l := kp_eq _ _ _
@[go_sem] theorem kt_law21_small_j1 (l : List AV) : keepT i_law21_small_j1 l = kp 65 [i_,o_,o_,i_] l := kp_eq _ _ _
@[go_sem] theorem kt_law21_small_k0 (l : List AV) : keepT i_law21_small_k0 l = kp 65 [i_,o_,o_,i_] l := kp_eq _ _ _
@[go_sem] theorem kt_law21_small_j0 (l : List AV) : keepT i_law21_small_j0 l = kp 69 [] l := kp_eq _ _ _
@[go_sem] theorem kt_ref04_Light_r (l : List AV) : keepT i_ref04_Light_r l = kp 53 [o_,o_,o_,o_,o_,o_,i_] l := kp_eq _ _ _
@[go_sem] theorem kt_ref04_Light_j1 (l : List AV) : keepT i_ref04_Light_j1 l = kp 52 [o_,i_,i_,i_,o_,o_,o_,i_] l := kp_eq _ _ _
@[go_sem] theorem kt_ref04_Light_k0 (l : List AV) : keepT i_ref04_Light_k0 l = kp 52 [o_,i_,i_,i_,o_,o_,o_,i_] l := kp_eq _ _ _
@[go_sem] theorem kt_ref04_Light_j0 (l : List AV) : keepT i_ref04_Light_j0 l = kp 58 [o_,i_] l := kp_eq _ _ _
@[go_sem] theorem kt_net_Net_Line_r (l : List AV) : keepT i_net_Net_Line_r l = kp 13 [o_,o_,o_,o_,o_,o_,o_,o_,i_] l := kp_eq _ _ _
@[go_sem] theorem kt_law21_play_r (l : List AV) : keepT i_law21_play_r l = kp 206 [o_,o_,o_,o_,o_,o_,i_] l := kp_eq _ _ _
@[go_sem] theorem kt_law21_play_j0 (l : List AV) : keepT i_law21_play_j0 l = kp 205 [i_,i_,o_,o_,o_,i_,o_,i_] l := kp_eq _ _ _
@[go_sem] theorem kt_law21_at_r (l : List AV) : keepT i_law21_at_r l = kp 23 [o_,o_,o_,o_,i_] l := kp_eq _ _ _
@[go_sem] theorem kt_law21_model_asked_r (l : List AV) : keepT i_law21_model_asked_r l = kp 20 [o_,o_,o_,o_,o_,o_,o_,o_,i_] l := kp_eq _ _ _
@[go_sem] theorem kt_law21_model_send_r (l : List AV) : keepT i_law21_model_send_r l = kp 77 [o_,o_,o_,o_,i_] l := kp_eq _ _ _
@[go_sem] theorem kt_law21_model_send_j1 (l : List AV) : keepT i_law21_model_send_j1 l = kp 75 [i_,i_,o_,o_,o_,i_,i_] l := kp_eq _ _ _
@[go_sem] theorem kt_law21_model_send_k0 (l : List AV) : keepT i_law21_model_send_k0 l = kp 75 [i_,i_,o_,o_,o_,i_,i_] l := kp_eq _ _ _
@[go_sem] theorem kt_law21_model_send_j0 (l : List AV) : keepT i_law21_model_send_j0 l = kp 76 [o_,o_,o_,o_,o_,i_] l := kp_eq _ _ _
@[go_sem] theorem kt_ref14_Write_r (l : List AV) : keepT i_ref14_Write_r l = kp 88 [o_,o_,i_,i_] l := kp_eq _ _ _
@[go_sem] theorem kt_ref14_Write_j1 (l : List AV) : keepT i_ref14_Write_j1 l = kp 85 [o_,i_,o_,o_,i_,i_,i_] l := kp_eq _ _ _
@[go_sem] theorem kt_ref14_Write_k0 (l : List AV) : keepT i_ref14_Write_k0 l = kp 85 [o_,i_,o_,o_,i_,i_,i_] l := kp_eq _ _ _
@[go_sem] theorem kt_ref14_Write_j0 (l : List AV) : keepT i_ref14_Write_j0 l = kp 87 [o_,i_,o_,o_,i_] l := kp_eq _ _ _
@[go_sem] theorem kt_ref14_Writer_count_r (l : List AV) : keepT i_ref14_Writer_count_r l = kp 24 [] l := kp_eq _ _ _
@[go_sem] theorem kt_ref02_Number_r (l : List AV) : keepT i_ref02_Number_r l = kp 23 [o_,o_,i_] l := kp_eq _ _ _
@[go_sem] theorem kt_ref02_Number_j1 (l : List AV) : keepT i_ref02_Number_j1 l = kp 22 [i_,o_,o_,i_] l := kp_eq _ _ _
@[go_sem] theorem kt_ref02_Number_k0 (l : List AV) : keepT i_ref02_Number_k0 l = kp 22 [i_,o_,o_,i_] l := kp_eq _ _ _
@[go_sem] theorem kt_ref02_Number_j0 (l : List AV) : keepT i_ref02_Number_j0 l = kp 22 [o_,o_,o_,i_] l := kp_eq _ _ _
@[go_sem] theorem kt_ref14_Writer_entries_j1 (l : List AV) : keepT i_ref14_Writer_entries_j1 l = kp 31 [i_,i_,o_,o_,i_] l := kp_eq _ _ _
@[go_sem] theorem kt_ref14_Writer_entries_k0 (l : List AV) : keepT i_ref14_Writer_entries_k0 l = kp 31 [i_,i_,o_,o_,i_] l := kp_eq _ _ _
@[go_sem] theorem kt_ref14_Writer_entries_j0 (l : List AV) : keepT i_ref14_Writer_entries_j0 l = kp 36 [] l := kp_eq _ _ _
@[go_sem] theorem kt_ref14_Writer_bytes_r (l : List AV) : keepT i_ref14_Writer_bytes_r l = kp 23 [] l := kp_eq _ _ _
@[go_sem] theorem kt_ref02_Bytes_r (l : List AV) : keepT i_ref02_Bytes_r l = kp 6 [o_,o_,i_] l := kp_eq _ _ _
@[go_sem] theorem kt_ref14_Writer_members_j1 (l : List AV) : keepT i_ref14_Writer_members_j1 l = kp 16 [i_,i_,o_,o_,i_] l := kp_eq _ _ _
@[go_sem] theorem kt_ref14_Writer_members_k0 (l : List AV) : keepT i_ref14_Writer_members_k0 l = kp 16 [i_,i_,o_,o_,i_] l := kp_eq _ _ _
@[go_sem] theorem kt_ref14_Writer_members_j0 (l : List AV) : keepT i_ref14_Writer_members_j0 l = kp 21 [] l := kp_eq _ _ _
@[go_sem] theorem kt_ref10_Write_r (l : List AV) : keepT i_ref10_Write_r l = kp 12 [o_,o_,i_,i_] l := kp_eq _ _ _
@[go_sem] theorem kt_ref04_Check_r (l : List AV) : keepT i_ref04_Check_r l = kp 9 [o_,o_,i_] l := kp_eq _ _ _
@[go_sem] theorem kt_ref04_Deep_r (l : List AV) : keepT i_ref04_Deep_r l = kp 38 [o_,o_,o_,o_,i_] l := kp_eq _ _ _
@[go_sem] theorem kt_ref04_Deep_j1 (l : List AV) : keepT i_ref04_Deep_j1 l = kp 36 [o_,i_,i_,o_,o_,o_,i_] l := kp_eq _ _ _
@[go_sem] theorem kt_ref04_Deep_k0 (l : List AV) : keepT i_ref04_Deep_k0 l = kp 36 [o_,i_,i_,o_,o_,o_,i_] l := kp_eq _ _ _
@[go_sem] theorem kt_ref04_Deep_j0 (l : List AV) : keepT i_ref04_Deep_j0 l = kp 43 [] l := kp_eq _ _ _
@[go_sem] theorem kt_ref04_Formed_r (l : List AV) : keepT i_ref04_Formed_r l = kp 91 [o_,o_,i_] l := kp_eq _ _ _
@[go_sem] theorem kt_ref04_Formed_j0 (l : List AV) : keepT i_ref04_Formed_j0 l = kp 86 [o_,i_,o_,o_,o_,o_,i_,i_] l := kp_eq _ _ _
@[go_sem] theorem kt_ref04_Formed_j2 (l : List AV) : keepT i_ref04_Formed_j2 l = kp 85 [o_,i_,o_,o_,o_,o_,i_,i_,i_] l := kp_eq _ _ _
@[go_sem] theorem kt_ref04_Formed_k0 (l : List AV) : keepT i_ref04_Formed_k0 l = kp 85 [o_,i_,o_,o_,o_,o_,i_,i_,i_] l := kp_eq _ _ _
@[go_sem] theorem kt_ref04_Formed_j1 (l : List AV) : keepT i_ref04_Formed_j1 l = kp 86 [o_,o_,o_,o_,o_,o_,o_,i_] l := kp_eq _ _ _
@[go_sem] theorem kt_ref10_long_r (l : List AV) : keepT i_ref10_long_r l = kp 20 [o_,o_,i_] l := kp_eq _ _ _
@[go_sem] theorem kt_ref10_long_j1 (l : List AV) : keepT i_ref10_long_j1 l = kp 19 [o_,i_,o_,i_] l := kp_eq _ _ _
@[go_sem] theorem kt_ref10_long_k0 (l : List AV) : keepT i_ref10_long_k0 l = kp 19 [o_,i_,o_,i_] l := kp_eq _ _ _
@[go_sem] theorem kt_ref10_long_j0 (l : List AV) : keepT i_ref10_long_j0 l = kp 23 [] l := kp_eq _ _ _
@[go_sem] theorem kt_ref10_bytes_r (l : List AV) : keepT i_ref10_bytes_r l = kp 51 [o_,o_,i_] l := kp_eq _ _ _
@[go_sem] theorem kt_ref10_bytes_j1 (l : List AV) : keepT i_ref10_bytes_j1 l = kp 49 [o_,i_,o_,i_,i_] l := kp_eq _ _ _
@[go_sem] theorem kt_ref10_bytes_k0 (l : List AV) : keepT i_ref10_bytes_k0 l = kp 49 [o_,i_,o_,i_,i_] l := kp_eq _ _ _
@[go_sem] theorem kt_ref10_bytes_j0 (l : List AV) : keepT i_ref10_bytes_j0 l = kp 50 [o_,o_,o_,i_] l := kp_eq _ _ _
@[go_sem] theorem kt_ref14_Writer_end_r (l : List AV) : keepT i_ref14_Writer_end_r l = kp 14 [o_,o_,i_,i_] l := kp_eq _ _ _
@[go_sem] theorem kt_law21_alike_r (l : List AV) : keepT i_law21_alike_r l = kp 55 [o_,o_,o_,o_,i_] l := kp_eq _ _ _
@[go_sem] theorem kt_law21_alike_j3 (l : List AV) : keepT i_law21_alike_j3 l = kp 53 [i_,i_,o_,o_,o_,i_,i_] l := kp_eq _ _ _
@[go_sem] theorem kt_law21_alike_k1 (l : List AV) : keepT i_law21_alike_k1 l = kp 53 [i_,i_,o_,o_,o_,i_,i_] l := kp_eq _ _ _
@[go_sem] theorem kt_law21_alike_j2 (l : List AV) : keepT i_law21_alike_j2 l = kp 54 [i_,i_,o_,o_,o_,i_] l := kp_eq _ _ _
@[go_sem] theorem kt_law21_alike_j1 (l : List AV) : keepT i_law21_alike_j1 l = kp 54 [i_,i_,o_,o_,o_,i_] l := kp_eq _ _ _
@[go_sem] theorem kt_law21_alike_k0 (l : List AV) : keepT i_law21_alike_k0 l = kp 54 [i_,i_,o_,o_,o_,i_] l := kp_eq _ _ _
@[go_sem] theorem kt_law21_alike_j0 (l : List AV) : keepT i_law21_alike_j0 l = kp 60 [] l := kp_eq _ _ _
@[go_sem] theorem kt_net_Net_Cut_r (l : List AV) : keepT i_net_Net_Cut_r l = kp 14 [o_,o_,o_,o_,o_,o_,i_] l := kp_eq _ _ _
@[go_sem] theorem kt_entry_Write_r (l : List AV) : keepT i_entry_Write_r l = kp 78 [o_,o_,i_,i_] l := kp_eq _ _ _
@[go_sem] theorem kt_entry_writer_counts_r (l : List AV) : keepT i_entry_writer_counts_r l = kp 33 [] l := kp_eq _ _ _
@[go_sem] theorem kt_entry_writer_counts_j1 (l : List AV) : keepT i_entry_writer_counts_j1 l = kp 24 [i_,o_,o_,o_,o_,o_,i_,i_,i_] l := kp_eq _ _ _
@[go_sem] theorem kt_entry_writer_counts_k0 (l : List AV) : keepT i_entry_writer_counts_k0 l = kp 24 [i_,o_,o_,o_,o_,o_,i_,i_,i_] l := kp_eq _ _ _
@[go_sem] theorem kt_entry_writer_counts_j0 (l : List AV) : keepT i_entry_writer_counts_j0 l = kp 33 [] l := kp_eq _ _ _
@[go_sem] theorem kt_coder_Number_r (l : List AV) : keepT i_coder_Number_r l = kp 40 [o_,o_,i_] l := kp_eq _ _ _
@[go_sem] theorem kt_coder_Number_j1 (l : List AV) : keepT i_coder_Number_j1 l = kp 39 [i_,o_,o_,i_] l := kp_eq _ _ _
@[go_sem] theorem kt_coder_Number_k0 (l : List AV) : keepT i_coder_Number_k0 l = kp 39 [i_,o_,o_,i_] l := kp_eq _ _ _
@[go_sem] theorem kt_coder_Number_j0 (l : List AV) : keepT i_coder_Number_j0 l = kp 39 [i_,o_,o_,i_] l := kp_eq _ _ _
@[go_sem] theorem kt_coder_Number_j3 (l : List AV) : keepT i_coder_Number_j3 l = kp 15 [i_,o_,o_,i_,i_,o_,o_,o_,o_,o_,o_,o_,o_,o_,o_,o_,o_,o_,o_,o_,o_,o_,o_,o_,o_,o_,i_,i_] l := kp_eq _ _ _
@[go_sem] theorem kt_coder_Number_k1 (l : List AV) : keepT i_coder_Number_k1 l = kp 15 [i_,o_,o_,i_,i_,o_,o_,o_,o_,o_,o_,o_,o_,o_,o_,o_,o_,o_,o_,o_,o_,o_,o_,o_,o_,o_,i_,i_] l := kp_eq _ _ _
@[go_sem] theorem kt_coder_Number_j2 (l : List AV) : keepT i_coder_Number_j2 l = kp 38 [o_,o_,o_,o_,i_] l := kp_eq _ _ _
@[go_sem] theorem kt_entry_writer_entries_j1 (l : List AV) : keepT i_entry_writer_entries_j1 l = kp 15 [i_,o_,o_,o_,o_,o_,o_,o_,o_,o_,o_,i_,i_,i_] l := kp_eq _ _ _
@[go_sem] theorem kt_entry_writer_entries_k0 (l : List AV) : keepT i_entry_writer_entries_k0 l = kp 15 [i_,o_,o_,o_,o_,o_,o_,o_,o_,o_,o_,i_,i_,i_] l := kp_eq _ _ _
@[go_sem] theorem kt_entry_writer_entries_j0 (l : List AV) : keepT i_entry_writer_entries_j0 l = kp 29 [] l := kp_eq _ _ _
@[go_sem] theorem kt_coder_Bytes_r (l : List AV) : keepT i_coder_Bytes_r l = kp 6 [o_,o_,i_] l := kp_eq _ _ _
@[go_sem] theorem kt_code_Write_r (l : List AV) : keepT i_code_Write_r l = kp 11 [o_,o_,i_,i_] l := kp_eq _ _ _
@[go_sem] theorem kt_tree_Check_r (l : List AV) : keepT i_tree_Check_r l = kp 9 [o_,o_,i_] l := kp_eq _ _ _
@[go_sem] theorem kt_tree_Check_j0 (l : List AV) : keepT i_tree_Check_j0 l = kp 12 [] l := kp_eq _ _ _
@[go_sem] theorem kt_tree_deep_r (l : List AV) : keepT i_tree_deep_r l = kp 24 [o_,o_,o_,o_,i_] l := kp_eq _ _ _
@[go_sem] theorem kt_tree_deep_1_r (l : List AV) : keepT i_tree_deep_1_r l = kp 4 [o_,o_,o_,i_] l := kp_eq _ _ _
@[go_sem] theorem kt_slices_ContainsFunc_sl_api_Tree_api_Tree_r (l : List AV) : keepT i_slices_ContainsFunc_sl_api_Tree_api_Tree_r l = kp 4 [o_,o_,o_,o_,i_] l := kp_eq _ _ _
@[go_sem] theorem kt_slices_IndexFunc_sl_api_Tree_api_Tree_r (l : List AV) : keepT i_slices_IndexFunc_sl_api_Tree_api_Tree_r l = kp 14 [o_,o_,o_,o_,i_] l := kp_eq _ _ _
@[go_sem] theorem kt_slices_IndexFunc_sl_api_Tree_api_Tree_j1 (l : List AV) : keepT i_slices_IndexFunc_sl_api_Tree_api_Tree_j1 l = kp 10 [i_,i_,o_,o_,o_,o_,o_,i_,i_] l := kp_eq _ _ _
@[go_sem] theorem kt_slices_IndexFunc_sl_api_Tree_api_Tree_k0 (l : List AV) : keepT i_slices_IndexFunc_sl_api_Tree_api_Tree_k0 l = kp 10 [i_,i_,o_,o_,o_,o_,o_,i_,i_] l := kp_eq _ _ _
@[go_sem] theorem kt_slices_IndexFunc_sl_api_Tree_api_Tree_j0 (l : List AV) : keepT i_slices_IndexFunc_sl_api_Tree_api_Tree_j0 l = kp 19 [] l := kp_eq _ _ _
@[go_sem] theorem kt_tree_formed_r (l : List AV) : keepT i_tree_formed_r l = kp 84 [o_,o_,i_] l := kp_eq _ _ _
@[go_sem] theorem kt_tree_formed_j0 (l : List AV) : keepT i_tree_formed_j0 l = kp 83 [o_,i_,o_,i_] l := kp_eq _ _ _
@[go_sem] theorem kt_tree_formed_1_r (l : List AV) : keepT i_tree_formed_1_r l = keepT [o_,o_,i_,o_,o_,o_] l := rfl
@[go_sem] theorem kt_code_long_r (l : List AV) : keepT i_code_long_r l = kp 16 [o_,o_,i_] l := kp_eq _ _ _
@[go_sem] theorem kt_code_long_j1 (l : List AV) : keepT i_code_long_j1 l = kp 6 [o_,o_,o_,o_,o_,o_,o_,o_,o_,o_,i_,i_,i_] l := kp_eq _ _ _
@[go_sem] theorem kt_code_long_k0 (l : List AV) : keepT i_code_long_k0 l = kp 6 [o_,o_,o_,o_,o_,o_,o_,o_,o_,o_,i_,i_,i_] l := kp_eq _ _ _
@[go_sem] theorem kt_code_long_j0 (l : List AV) : keepT i_code_long_j0 l = kp 19 [] l := kp_eq _ _ _
@[go_sem] theorem kt_code_write_r (l : List AV) : keepT i_code_write_r l = kp 51 [o_,o_,o_,o_,i_] l := kp_eq _ _ _
@[go_sem] theorem kt_code_write_j0 (l : List AV) : keepT i_code_write_j0 l = kp 52 [i_,o_,o_,i_] l := kp_eq _ _ _
@[go_sem] theorem kt_code_write_j2 (l : List AV) : keepT i_code_write_j2 l = kp 8 [i_,o_,o_,o_,o_,o_,o_,o_,o_,o_,o_,o_,o_,o_,o_,o_,o_,o_,o_,o_,o_,o_,o_,o_,o_,o_,o_,o_,o_,o_,o_,o_,o_,o_,o_,o_,o_,o_,o_,o_,o_,o_,o_,o_,o_,i_,i_,i_] l := kp_eq _ _ _
@[go_sem] theorem kt_code_write_k0 (l : List AV) : keepT i_code_write_k0 l = kp 8 [i_,o_,o_,o_,o_,o_,o_,o_,o_,o_,o_,o_,o_,o_,o_,o_,o_,o_,o_,o_,o_,o_,o_,o_,o_,o_,o_,o_,o_,o_,o_,o_,o_,o_,o_,o_,o_,o_,o_,o_,o_,o_,o_,o_,o_,i_,i_,i_] l := kp_eq _ _ _
@[go_sem] theorem kt_code_write_j1 (l : List AV) : keepT i_code_write_j1 l = kp 55 [i_] l := kp_eq _ _ _
@[go_sem] theorem kt_entry_writer_end_r (l : List AV) : keepT i_entry_writer_end_r l = kp 18 [o_,o_,i_,i_] l := kp_eq _ _ _
@[go_sem] theorem kt_entry_writer_end_j0 (l : List AV) : keepT i_entry_writer_end_j0 l = kp 21 [i_] l := kp_eq _ _ _
noncomputable def L_law21_NetFull_0 (st : St) : Option (Ex × St) := lp tab GN 4 i_law21_NetFull_k0 i_law21_NetFull_b0 st
theorem L_law21_NetFull_0_eq (st : St) : L_law21_NetFull_0 st = againL L_law21_NetFull_0 4 i_law21_NetFull_k0 (app tab GN 4 [] (ex tab GN 4 i_law21_NetFull_b0 st)) := lp_eq tab GN 4 i_law21_NetFull_k0 i_law21_NetFull_b0 st
@[go_sem] theorem L_law21_NetFull_0_in (K : List Fr) (st : St) : app tab GN 4 K (ex tab GN 4 (.loop i_law21_NetFull_k0 i_law21_NetFull_b0) st) = app tab GN 4 K (L_law21_NetFull_0 (clean 4 i_law21_NetFull_k0 st)) := rfl
noncomputable def L_coder_Reader_Number_0 (st : St) : Option (Ex × St) := lp tab G0 0 i_coder_Reader_Number_k0 i_coder_Reader_Number_b0 st
theorem L_coder_Reader_Number_0_eq (st : St) : L_coder_Reader_Number_0 st = againL L_coder_Reader_Number_0 0 i_coder_Reader_Number_k0 (app tab G0 0 [] (ex tab G0 0 i_coder_Reader_Number_b0 st)) := lp_eq tab G0 0 i_coder_Reader_Number_k0 i_coder_Reader_Number_b0 st
@[go_sem] theorem L_coder_Reader_Number_0_in (K : List Fr) (st : St) : app tab G0 0 K (ex tab G0 0 (.loop i_coder_Reader_Number_k0 i_coder_Reader_Number_b0) st) = app tab G0 0 K (L_coder_Reader_Number_0 (clean 0 i_coder_Reader_Number_k0 st)) := rfl
noncomputable def L_entry_reader_entries_0 (st : St) : Option (Ex × St) := lp tab G0 1 i_entry_reader_entries_k0 i_entry_reader_entries_b0 st
theorem L_entry_reader_entries_0_eq (st : St) : L_entry_reader_entries_0 st = againL L_entry_reader_entries_0 1 i_entry_reader_entries_k0 (app tab G0 1 [] (ex tab G0 1 i_entry_reader_entries_b0 st)) := lp_eq tab G0 1 i_entry_reader_entries_k0 i_entry_reader_entries_b0 st
@[go_sem] theorem L_entry_reader_entries_0_in (K : List Fr) (st : St) : app tab G0 1 K (ex tab G0 1 (.loop i_entry_reader_entries_k0 i_entry_reader_entries_b0) st) = app tab G0 1 K (L_entry_reader_entries_0 (clean 1 i_entry_reader_entries_k0 st)) := rfl
noncomputable def L_entry_reader_members_0 (st : St) : Option (Ex × St) := lp tab G0 1 i_entry_reader_members_k0 i_entry_reader_members_b0 st
theorem L_entry_reader_members_0_eq (st : St) : L_entry_reader_members_0 st = againL L_entry_reader_members_0 1 i_entry_reader_members_k0 (app tab G0 1 [] (ex tab G0 1 i_entry_reader_members_b0 st)) := lp_eq tab G0 1 i_entry_reader_members_k0 i_entry_reader_members_b0 st
@[go_sem] theorem L_entry_reader_members_0_in (K : List Fr) (st : St) : app tab G0 1 K (ex tab G0 1 (.loop i_entry_reader_members_k0 i_entry_reader_members_b0) st) = app tab G0 1 K (L_entry_reader_members_0 (clean 1 i_entry_reader_members_k0 st)) := rfl
noncomputable def L_law21_NetPlays_0 (st : St) : Option (Ex × St) := lp tab GN 13 i_law21_NetPlays_k0 i_law21_NetPlays_b0 st
theorem L_law21_NetPlays_0_eq (st : St) : L_law21_NetPlays_0 st = againL L_law21_NetPlays_0 13 i_law21_NetPlays_k0 (app tab GN 13 [] (ex tab GN 13 i_law21_NetPlays_b0 st)) := lp_eq tab GN 13 i_law21_NetPlays_k0 i_law21_NetPlays_b0 st
@[go_sem] theorem L_law21_NetPlays_0_in (K : List Fr) (st : St) : app tab GN 13 K (ex tab GN 13 (.loop i_law21_NetPlays_k0 i_law21_NetPlays_b0) st) = app tab GN 13 K (L_law21_NetPlays_0 (clean 13 i_law21_NetPlays_k0 st)) := rfl
noncomputable def L_law21_small_1 (st : St) : Option (Ex × St) := lp tab G0 0 i_law21_small_k1 i_law21_small_b1 st
theorem L_law21_small_1_eq (st : St) : L_law21_small_1 st = againL L_law21_small_1 0 i_law21_small_k1 (app tab G0 0 [] (ex tab G0 0 i_law21_small_b1 st)) := lp_eq tab G0 0 i_law21_small_k1 i_law21_small_b1 st
@[go_sem] theorem L_law21_small_1_in (K : List Fr) (st : St) : app tab G0 0 K (ex tab G0 0 (.loop i_law21_small_k1 i_law21_small_b1) st) = app tab G0 0 K (L_law21_small_1 (clean 0 i_law21_small_k1 st)) := rfl
noncomputable def L_law21_small_0 (st : St) : Option (Ex × St) := lp tab G0 0 i_law21_small_k0 i_law21_small_b0 st
theorem L_law21_small_0_eq (st : St) : L_law21_small_0 st = againL L_law21_small_0 0 i_law21_small_k0 (app tab G0 0 [] (ex tab G0 0 i_law21_small_b0 st)) := lp_eq tab G0 0 i_law21_small_k0 i_law21_small_b0 st
@[go_sem] theorem L_law21_small_0_in (K : List Fr) (st : St) : app tab G0 0 K (ex tab G0 0 (.loop i_law21_small_k0 i_law21_small_b0) st) = app tab G0 0 K (L_law21_small_0 (clean 0 i_law21_small_k0 st)) := rfl
noncomputable def L_ref04_Light_0 (st : St) : Option (Ex × St) := lp tab G0 1 i_ref04_Light_k0 i_ref04_Light_b0 st
theorem L_ref04_Light_0_eq (st : St) : L_ref04_Light_0 st = againL L_ref04_Light_0 1 i_ref04_Light_k0 (app tab G0 1 [] (ex tab G0 1 i_ref04_Light_b0 st)) := lp_eq tab G0 1 i_ref04_Light_k0 i_ref04_Light_b0 st
@[go_sem] theorem L_ref04_Light_0_in (K : List Fr) (st : St) : app tab G0 1 K (ex tab G0 1 (.loop i_ref04_Light_k0 i_ref04_Light_b0) st) = app tab G0 1 K (L_ref04_Light_0 (clean 1 i_ref04_Light_k0 st)) := rfl
noncomputable def L_law21_model_send_0 (st : St) : Option (Ex × St) := lp tab G0 1 i_law21_model_send_k0 i_law21_model_send_b0 st
theorem L_law21_model_send_0_eq (st : St) : L_law21_model_send_0 st = againL L_law21_model_send_0 1 i_law21_model_send_k0 (app tab G0 1 [] (ex tab G0 1 i_law21_model_send_b0 st)) := lp_eq tab G0 1 i_law21_model_send_k0 i_law21_model_send_b0 st
@[go_sem] theorem L_law21_model_send_0_in (K : List Fr) (st : St) : app tab G0 1 K (ex tab G0 1 (.loop i_law21_model_send_k0 i_law21_model_send_b0) st) = app tab G0 1 K (L_law21_model_send_0 (clean 1 i_law21_model_send_k0 st)) := rfl
noncomputable def L_ref14_Write_0 (st : St) : Option (Ex × St) := lp tab G0 10 i_ref14_Write_k0 i_ref14_Write_b0 st
theorem L_ref14_Write_0_eq (st : St) : L_ref14_Write_0 st = againL L_ref14_Write_0 10 i_ref14_Write_k0 (app tab G0 10 [] (ex tab G0 10 i_ref14_Write_b0 st)) := lp_eq tab G0 10 i_ref14_Write_k0 i_ref14_Write_b0 st
@[go_sem] theorem L_ref14_Write_0_in (K : List Fr) (st : St) : app tab G0 10 K (ex tab G0 10 (.loop i_ref14_Write_k0 i_ref14_Write_b0) st) = app tab G0 10 K (L_ref14_Write_0 (clean 10 i_ref14_Write_k0 st)) := rfl
noncomputable def L_ref02_Number_0 (st : St) : Option (Ex × St) := lp tab G0 2 i_ref02_Number_k0 i_ref02_Number_b0 st
theorem L_ref02_Number_0_eq (st : St) : L_ref02_Number_0 st = againL L_ref02_Number_0 2 i_ref02_Number_k0 (app tab G0 2 [] (ex tab G0 2 i_ref02_Number_b0 st)) := lp_eq tab G0 2 i_ref02_Number_k0 i_ref02_Number_b0 st
@[go_sem] theorem L_ref02_Number_0_in (K : List Fr) (st : St) : app tab G0 2 K (ex tab G0 2 (.loop i_ref02_Number_k0 i_ref02_Number_b0) st) = app tab G0 2 K (L_ref02_Number_0 (clean 2 i_ref02_Number_k0 st)) := rfl
noncomputable def L_ref14_Writer_entries_0 (st : St) : Option (Ex × St) := lp tab G0 4 i_ref14_Writer_entries_k0 i_ref14_Writer_entries_b0 st
theorem L_ref14_Writer_entries_0_eq (st : St) : L_ref14_Writer_entries_0 st = againL L_ref14_Writer_entries_0 4 i_ref14_Writer_entries_k0 (app tab G0 4 [] (ex tab G0 4 i_ref14_Writer_entries_b0 st)) := lp_eq tab G0 4 i_ref14_Writer_entries_k0 i_ref14_Writer_entries_b0 st
@[go_sem] theorem L_ref14_Writer_entries_0_in (K : List Fr) (st : St) : app tab G0 4 K (ex tab G0 4 (.loop i_ref14_Writer_entries_k0 i_ref14_Writer_entries_b0) st) = app tab G0 4 K (L_ref14_Writer_entries_0 (clean 4 i_ref14_Writer_entries_k0 st)) := rfl
noncomputable def L_ref14_Writer_members_0 (st : St) : Option (Ex × St) := lp tab G0 2 i_ref14_Writer_members_k0 i_ref14_Writer_members_b0 st
theorem L_ref14_Writer_members_0_eq (st : St) : L_ref14_Writer_members_0 st = againL L_ref14_Writer_members_0 2 i_ref14_Writer_members_k0 (app tab G0 2 [] (ex tab G0 2 i_ref14_Writer_members_b0 st)) := lp_eq tab G0 2 i_ref14_Writer_members_k0 i_ref14_Writer_members_b0 st
@[go_sem] theorem L_ref14_Writer_members_0_in (K : List Fr) (st : St) : app tab G0 2 K (ex tab G0 2 (.loop i_ref14_Writer_members_k0 i_ref14_Writer_members_b0) st) = app tab G0 2 K (L_ref14_Writer_members_0 (clean 2 i_ref14_Writer_members_k0 st)) := rfl
noncomputable def L_ref04_Deep_0 (st : St) : Option (Ex × St) := lp tab G0 1 i_ref04_Deep_k0 i_ref04_Deep_b0 st
theorem L_ref04_Deep_0_eq (st : St) : L_ref04_Deep_0 st = againL L_ref04_Deep_0 1 i_ref04_Deep_k0 (app tab G0 1 [] (ex tab G0 1 i_ref04_Deep_b0 st)) := lp_eq tab G0 1 i_ref04_Deep_k0 i_ref04_Deep_b0 st
@[go_sem] theorem L_ref04_Deep_0_in (K : List Fr) (st : St) : app tab G0 1 K (ex tab G0 1 (.loop i_ref04_Deep_k0 i_ref04_Deep_b0) st) = app tab G0 1 K (L_ref04_Deep_0 (clean 1 i_ref04_Deep_k0 st)) := rfl
noncomputable def L_ref04_Formed_0 (st : St) : Option (Ex × St) := lp tab G0 1 i_ref04_Formed_k0 i_ref04_Formed_b0 st
theorem L_ref04_Formed_0_eq (st : St) : L_ref04_Formed_0 st = againL L_ref04_Formed_0 1 i_ref04_Formed_k0 (app tab G0 1 [] (ex tab G0 1 i_ref04_Formed_b0 st)) := lp_eq tab G0 1 i_ref04_Formed_k0 i_ref04_Formed_b0 st
@[go_sem] theorem L_ref04_Formed_0_in (K : List Fr) (st : St) : app tab G0 1 K (ex tab G0 1 (.loop i_ref04_Formed_k0 i_ref04_Formed_b0) st) = app tab G0 1 K (L_ref04_Formed_0 (clean 1 i_ref04_Formed_k0 st)) := rfl
noncomputable def L_ref10_long_0 (st : St) : Option (Ex × St) := lp tab G0 1 i_ref10_long_k0 i_ref10_long_b0 st
theorem L_ref10_long_0_eq (st : St) : L_ref10_long_0 st = againL L_ref10_long_0 1 i_ref10_long_k0 (app tab G0 1 [] (ex tab G0 1 i_ref10_long_b0 st)) := lp_eq tab G0 1 i_ref10_long_k0 i_ref10_long_b0 st
@[go_sem] theorem L_ref10_long_0_in (K : List Fr) (st : St) : app tab G0 1 K (ex tab G0 1 (.loop i_ref10_long_k0 i_ref10_long_b0) st) = app tab G0 1 K (L_ref10_long_0 (clean 1 i_ref10_long_k0 st)) := rfl
noncomputable def L_ref10_bytes_0 (st : St) : Option (Ex × St) := lp tab G0 2 i_ref10_bytes_k0 i_ref10_bytes_b0 st
theorem L_ref10_bytes_0_eq (st : St) : L_ref10_bytes_0 st = againL L_ref10_bytes_0 2 i_ref10_bytes_k0 (app tab G0 2 [] (ex tab G0 2 i_ref10_bytes_b0 st)) := lp_eq tab G0 2 i_ref10_bytes_k0 i_ref10_bytes_b0 st
@[go_sem] theorem L_ref10_bytes_0_in (K : List Fr) (st : St) : app tab G0 2 K (ex tab G0 2 (.loop i_ref10_bytes_k0 i_ref10_bytes_b0) st) = app tab G0 2 K (L_ref10_bytes_0 (clean 2 i_ref10_bytes_k0 st)) := rfl
noncomputable def L_law00_Code_0 (st : St) : Option (Ex × St) := lp tab G0 0 i_law00_Code_k0 i_law00_Code_b0 st
@[go_sem] theorem L_law00_Code_0_in (K : List Fr) (st : St) : app tab G0 0 K (ex tab G0 0 (.loop i_law00_Code_k0 i_law00_Code_b0) st) = app tab G0 0 K (L_law00_Code_0 (clean 0 i_law00_Code_k0 st)) := rfl
noncomputable def L_law21_alike_1 (st : St) : Option (Ex × St) := lp tab G0 0 i_law21_alike_k1 i_law21_alike_b1 st
theorem L_law21_alike_1_eq (st : St) : L_law21_alike_1 st = againL L_law21_alike_1 0 i_law21_alike_k1 (app tab G0 0 [] (ex tab G0 0 i_law21_alike_b1 st)) := lp_eq tab G0 0 i_law21_alike_k1 i_law21_alike_b1 st
@[go_sem] theorem L_law21_alike_1_in (K : List Fr) (st : St) : app tab G0 0 K (ex tab G0 0 (.loop i_law21_alike_k1 i_law21_alike_b1) st) = app tab G0 0 K (L_law21_alike_1 (clean 0 i_law21_alike_k1 st)) := rfl
noncomputable def L_law21_alike_0 (st : St) : Option (Ex × St) := lp tab G0 0 i_law21_alike_k0 i_law21_alike_b0 st
theorem L_law21_alike_0_eq (st : St) : L_law21_alike_0 st = againL L_law21_alike_0 0 i_law21_alike_k0 (app tab G0 0 [] (ex tab G0 0 i_law21_alike_b0 st)) := lp_eq tab G0 0 i_law21_alike_k0 i_law21_alike_b0 st
@[go_sem] theorem L_law21_alike_0_in (K : List Fr) (st : St) : app tab G0 0 K (ex tab G0 0 (.loop i_law21_alike_k0 i_law21_alike_b0) st) = app tab G0 0 K (L_law21_alike_0 (clean 0 i_law21_alike_k0 st)) := rfl
noncomputable def L_entry_writer_counts_0 (st : St) : Option (Ex × St) := lp tab G0 2 i_entry_writer_counts_k0 i_entry_writer_counts_b0 st
theorem L_entry_writer_counts_0_eq (st : St) : L_entry_writer_counts_0 st = againL L_entry_writer_counts_0 2 i_entry_writer_counts_k0 (app tab G0 2 [] (ex tab G0 2 i_entry_writer_counts_b0 st)) := lp_eq tab G0 2 i_entry_writer_counts_k0 i_entry_writer_counts_b0 st
@[go_sem] theorem L_entry_writer_counts_0_in (K : List Fr) (st : St) : app tab G0 2 K (ex tab G0 2 (.loop i_entry_writer_counts_k0 i_entry_writer_counts_b0) st) = app tab G0 2 K (L_entry_writer_counts_0 (clean 2 i_entry_writer_counts_k0 st)) := rfl
noncomputable def L_coder_Number_0 (st : St) : Option (Ex × St) := lp tab G0 1 i_coder_Number_k0 i_coder_Number_b0 st
theorem L_coder_Number_0_eq (st : St) : L_coder_Number_0 st = againL L_coder_Number_0 1 i_coder_Number_k0 (app tab G0 1 [] (ex tab G0 1 i_coder_Number_b0 st)) := lp_eq tab G0 1 i_coder_Number_k0 i_coder_Number_b0 st
@[go_sem] theorem L_coder_Number_0_in (K : List Fr) (st : St) : app tab G0 1 K (ex tab G0 1 (.loop i_coder_Number_k0 i_coder_Number_b0) st) = app tab G0 1 K (L_coder_Number_0 (clean 1 i_coder_Number_k0 st)) := rfl
noncomputable def L_coder_Number_1 (st : St) : Option (Ex × St) := lp tab G0 1 i_coder_Number_k1 i_coder_Number_b1 st
theorem L_coder_Number_1_eq (st : St) : L_coder_Number_1 st = againL L_coder_Number_1 1 i_coder_Number_k1 (app tab G0 1 [] (ex tab G0 1 i_coder_Number_b1 st)) := lp_eq tab G0 1 i_coder_Number_k1 i_coder_Number_b1 st
@[go_sem] theorem L_coder_Number_1_in (K : List Fr) (st : St) : app tab G0 1 K (ex tab G0 1 (.loop i_coder_Number_k1 i_coder_Number_b1) st) = app tab G0 1 K (L_coder_Number_1 (clean 1 i_coder_Number_k1 st)) := rfl
noncomputable def L_entry_writer_entries_0 (st : St) : Option (Ex × St) := lp tab G0 4 i_entry_writer_entries_k0 i_entry_writer_entries_b0 st
theorem L_entry_writer_entries_0_eq (st : St) : L_entry_writer_entries_0 st = againL L_entry_writer_entries_0 4 i_entry_writer_entries_k0 (app tab G0 4 [] (ex tab G0 4 i_entry_writer_entries_b0 st)) := lp_eq tab G0 4 i_entry_writer_entries_k0 i_entry_writer_entries_b0 st
@[go_sem] theorem L_entry_writer_entries_0_in (K : List Fr) (st : St) : app tab G0 4 K (ex tab G0 4 (.loop i_entry_writer_entries_k0 i_entry_writer_entries_b0) st) = app tab G0 4 K (L_entry_writer_entries_0 (clean 4 i_entry_writer_entries_k0 st)) := rfl
noncomputable def L_slices_IndexFunc_sl_api_Tree_api_Tree_0 (st : St) : Option (Ex × St) := lp tab G0 0 i_slices_IndexFunc_sl_api_Tree_api_Tree_k0 i_slices_IndexFunc_sl_api_Tree_api_Tree_b0 st
theorem L_slices_IndexFunc_sl_api_Tree_api_Tree_0_eq (st : St) : L_slices_IndexFunc_sl_api_Tree_api_Tree_0 st = againL L_slices_IndexFunc_sl_api_Tree_api_Tree_0 0 i_slices_IndexFunc_sl_api_Tree_api_Tree_k0 (app tab G0 0 [] (ex tab G0 0 i_slices_IndexFunc_sl_api_Tree_api_Tree_b0 st)) := lp_eq tab G0 0 i_slices_IndexFunc_sl_api_Tree_api_Tree_k0 i_slices_IndexFunc_sl_api_Tree_api_Tree_b0 st
@[go_sem] theorem L_slices_IndexFunc_sl_api_Tree_api_Tree_0_in (K : List Fr) (st : St) : app tab G0 0 K (ex tab G0 0 (.loop i_slices_IndexFunc_sl_api_Tree_api_Tree_k0 i_slices_IndexFunc_sl_api_Tree_api_Tree_b0) st) = app tab G0 0 K (L_slices_IndexFunc_sl_api_Tree_api_Tree_0 (clean 0 i_slices_IndexFunc_sl_api_Tree_api_Tree_k0 st)) := rfl
noncomputable def L_code_long_0 (st : St) : Option (Ex × St) := lp tab G0 2 i_code_long_k0 i_code_long_b0 st
theorem L_code_long_0_eq (st : St) : L_code_long_0 st = againL L_code_long_0 2 i_code_long_k0 (app tab G0 2 [] (ex tab G0 2 i_code_long_b0 st)) := lp_eq tab G0 2 i_code_long_k0 i_code_long_b0 st
@[go_sem] theorem L_code_long_0_in (K : List Fr) (st : St) : app tab G0 2 K (ex tab G0 2 (.loop i_code_long_k0 i_code_long_b0) st) = app tab G0 2 K (L_code_long_0 (clean 2 i_code_long_k0 st)) := rfl
noncomputable def L_code_write_0 (st : St) : Option (Ex × St) := lp tab G0 4 i_code_write_k0 i_code_write_b0 st
theorem L_code_write_0_eq (st : St) : L_code_write_0 st = againL L_code_write_0 4 i_code_write_k0 (app tab G0 4 [] (ex tab G0 4 i_code_write_b0 st)) := lp_eq tab G0 4 i_code_write_k0 i_code_write_b0 st
@[go_sem] theorem L_code_write_0_in (K : List Fr) (st : St) : app tab G0 4 K (ex tab G0 4 (.loop i_code_write_k0 i_code_write_b0) st) = app tab G0 4 K (L_code_write_0 (clean 4 i_code_write_k0 st)) := rfl
end Go.Proofs.Ytdgfbfkjdflabaa
