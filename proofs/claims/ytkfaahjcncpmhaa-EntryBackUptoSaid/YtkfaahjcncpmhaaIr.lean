/- The IR of the seat's functions, printed by a program of this session. -/
import Derived.Test.YtkfaahjcncpmhaaIrP0
set_option linter.unusedVariables false
namespace Go.Proofs.Ytkfaahjcncpmhaa
open Go.Ev

abbrev s_code_write_J1 (t0 : AV) (h : Heap) : St := ⟨[t0, u_,u_,u_,u_,u_,u_,u_,u_,u_,u_,u_,u_,u_,u_,u_,u_,u_,u_,u_,u_,u_,u_,u_,u_,u_,u_,u_,u_,u_,u_,u_,u_,u_,u_,u_,u_,u_,u_,u_,u_,u_,u_,u_,u_,u_,u_,u_,u_,u_,u_,u_,u_,u_,u_,u_], h⟩
/-- heartwood/code.write -/
def i_code_write : Ev.Fn := ⟨2, 56, 4, (.seq (.reg [] [⟨(some 3), .box 0 5 (.t 1),none,[]⟩,⟨(some 4), .mv (.k (.slice none 0 0)),none,[]⟩]) (.seq (.reg [] [⟨(some 7), .mv (.t 0),none,[]⟩,⟨(some 8), .fa 0 (.t 3),none,[]⟩,⟨(some 9), .load false 1 (.t 8),none,[]⟩,⟨(some 10), .conv .u8 (.t 9),none,[]⟩,⟨(some 11), .litd 1 1 [(.int .u8 0)] [(0, (.t 10))],none,[]⟩,⟨(some 12), .app 1 ty_uint8 1 1 (.t 7) (.t 11),none,[]⟩,⟨(some 0), .mv (.t 12),none,[]⟩]) (.seq (.seq (.reg [] [⟨(some 13), .fa 0 (.t 3),none,[]⟩,⟨(some 14), .load false 1 (.t 13),none,[]⟩]) (.block 0 i_code_write_j0 (.seq (.reg [] [⟨(some 16), .bin .plain .eql (.t 14) (.k (.int .i64 1)),none,[]⟩,⟨(some 15), .mv (.t 16),none,[]⟩]) (.cond (.t 15) (.reg [(4, 6)] [⟨(some 17), .mv (.t 0),none,[]⟩,⟨(some 18), .fa 1 (.t 3),none,[]⟩,⟨(some 19), .load false 1 (.t 18),none,[]⟩,⟨(some 20), .qcall n_coder_Bytes [(.t 19)] [],none,[]⟩,⟨(some 21), .app 1 ty_uint8 1 1 (.t 17) (.t 20),none,[]⟩,⟨(some 22), .fa 2 (.t 3),none,[]⟩,⟨(some 23), .load false 1 (.t 22),none,[]⟩,⟨(some 24), .qcall n_coder_Bytes [(.t 23)] [],none,[]⟩,⟨(some 25), .app 1 ty_uint8 1 1 (.t 21) (.t 24),none,[]⟩,⟨(some 0), .mv (.t 25),none,[]⟩]) (.seq (.reg [] [⟨(some 27), .bin .plain .eql (.t 14) (.k (.int .i64 2)),none,[]⟩,⟨(some 26), .mv (.t 27),none,[]⟩]) (.cond (.t 26) (.reg [(4, 6)] [⟨(some 28), .mv (.t 0),none,[]⟩,⟨(some 29), .fa 1 (.t 3),none,[]⟩,⟨(some 30), .load false 1 (.t 29),none,[]⟩,⟨(some 31), .qcall n_coder_Bytes [(.t 30)] [],none,[]⟩,⟨(some 32), .app 1 ty_uint8 1 1 (.t 28) (.t 31),none,[]⟩,⟨(some 33), .fa 3 (.t 3),none,[]⟩,⟨(some 34), .load false 1 (.t 33),none,[]⟩,⟨(some 35), .qcall n_coder_Bytes [(.t 34)] [],none,[]⟩,⟨(some 36), .app 1 ty_uint8 1 1 (.t 32) (.t 35),none,[]⟩,⟨(some 0), .mv (.t 36),none,[]⟩]) (.seq (.reg [] [⟨(some 38), .bin .plain .eql (.t 14) (.k (.int .i64 3)),none,[]⟩,⟨(some 37), .mv (.t 38),none,[]⟩]) (.cond (.t 37) (.reg [] [⟨(some 39), .mv (.t 0),none,[]⟩,⟨(some 40), .fa 3 (.t 3),none,[]⟩,⟨(some 41), .load false 1 (.t 40),none,[]⟩,⟨(some 42), .qcall n_coder_Bytes [(.t 41)] [],none,[]⟩,⟨(some 43), .app 1 ty_uint8 1 1 (.t 39) (.t 42),none,[]⟩,⟨(some 0), .mv (.t 43),none,[]⟩]) .skip)))))))) (.seq (.seq (.reg [] [⟨(some 44), .fa 4 (.t 3),none,[]⟩,⟨(some 45), .load false 1 (.t 44),none,[]⟩,⟨(some 46), .len false (.t 45),none,[]⟩,⟨(some 47), .mv (.k (.int .i64 0)),none,[]⟩]) (.block 1 i_code_write_j1 (.loop i_code_write_k0 i_code_write_b0))) (.seq (.reg [] [⟨(some 55), .mv (.t 0),none,[]⟩,⟨(some 4), .mv (.t 55),none,[]⟩]) (.ret i_code_write_r)))))),
 [.tmp 4], [true], false, [i_,o_]⟩

def tab (f : Nat) : Option Ev.Fn := match f with
  | 12 => some i_law14_EntryBack
  | 29 => some i_law14_up
  | 31 => some i_entry_WriteLog
  | 56 => some i_entry_writer_counts
  | 93 => some i_coder_Number
  | 57 => some i_entry_writer_members
  | 58 => some i_entry_writer_entries
  | 81 => some i_entry_writer_bytes
  | 107 => some i_coder_Bytes
  | 59 => some i_entry_writer_end
  | 35 => some i_entry_Read
  | 64 => some i_coder_NewReader
  | 95 => some i_slices_Clone_sl_byte_byte
  | 65 => some i_entry_reader_count
  | 96 => some i_coder_Reader_Number
  | 69 => some i_coder_Reader_Byte
  | 99 => some i_coder_Reader_take
  | 67 => some i_entry_reader_entries
  | 97 => some i_entry_reader_fine
  | 98 => some i_coder_Reader_End
  | 70 => some i_coder_Reader_Bytes
  | 66 => some i_entry_reader_members
  | 71 => some i_code_Read
  | 100 => some i_code_Read_1
  | 68 => some i_entry_reader_end
  | 30 => some i_law14_few
  | 39 => some i_ref04_Light
  | 34 => some i_entry_ReadLog
  | 40 => some i_entry_Write
  | 82 => some i_code_Write
  | 108 => some i_tree_Check
  | 113 => some i_tree_deep
  | 116 => some i_tree_deep_1
  | 115 => some i_slices_ContainsFunc_sl_api_Tree_api_Tree
  | 118 => some i_slices_IndexFunc_sl_api_Tree_api_Tree
  | 114 => some i_tree_formed
  | 117 => some i_tree_formed_1
  | 109 => some i_code_long
  | 110 => some i_code_write
  | _ => none
theorem t_law14_EntryBack : tab n_law14_EntryBack = some i_law14_EntryBack := rfl
theorem t_law14_up : tab n_law14_up = some i_law14_up := rfl
theorem t_entry_WriteLog : tab n_entry_WriteLog = some i_entry_WriteLog := rfl
theorem t_entry_writer_counts : tab n_entry_writer_counts = some i_entry_writer_counts := rfl
theorem t_coder_Number : tab n_coder_Number = some i_coder_Number := rfl
theorem t_entry_writer_members : tab n_entry_writer_members = some i_entry_writer_members := rfl
theorem t_entry_writer_entries : tab n_entry_writer_entries = some i_entry_writer_entries := rfl
theorem t_entry_writer_bytes : tab n_entry_writer_bytes = some i_entry_writer_bytes := rfl
theorem t_coder_Bytes : tab n_coder_Bytes = some i_coder_Bytes := rfl
theorem t_entry_writer_end : tab n_entry_writer_end = some i_entry_writer_end := rfl
theorem t_entry_Read : tab n_entry_Read = some i_entry_Read := rfl
theorem t_coder_NewReader : tab n_coder_NewReader = some i_coder_NewReader := rfl
theorem t_slices_Clone_sl_byte_byte : tab n_slices_Clone_sl_byte_byte = some i_slices_Clone_sl_byte_byte := rfl
theorem t_entry_reader_count : tab n_entry_reader_count = some i_entry_reader_count := rfl
theorem t_coder_Reader_Number : tab n_coder_Reader_Number = some i_coder_Reader_Number := rfl
theorem t_coder_Reader_Byte : tab n_coder_Reader_Byte = some i_coder_Reader_Byte := rfl
theorem t_coder_Reader_take : tab n_coder_Reader_take = some i_coder_Reader_take := rfl
theorem t_entry_reader_entries : tab n_entry_reader_entries = some i_entry_reader_entries := rfl
theorem t_entry_reader_fine : tab n_entry_reader_fine = some i_entry_reader_fine := rfl
theorem t_coder_Reader_End : tab n_coder_Reader_End = some i_coder_Reader_End := rfl
theorem t_coder_Reader_Bytes : tab n_coder_Reader_Bytes = some i_coder_Reader_Bytes := rfl
theorem t_entry_reader_members : tab n_entry_reader_members = some i_entry_reader_members := rfl
theorem t_code_Read : tab n_code_Read = some i_code_Read := rfl
theorem t_code_Read_1 : tab n_code_Read_1 = some i_code_Read_1 := rfl
theorem t_entry_reader_end : tab n_entry_reader_end = some i_entry_reader_end := rfl
theorem t_law14_few : tab n_law14_few = some i_law14_few := rfl
theorem t_ref04_Light : tab n_ref04_Light = some i_ref04_Light := rfl
theorem t_entry_ReadLog : tab n_entry_ReadLog = some i_entry_ReadLog := rfl
theorem t_entry_Write : tab n_entry_Write = some i_entry_Write := rfl
theorem t_code_Write : tab n_code_Write = some i_code_Write := rfl
theorem t_tree_Check : tab n_tree_Check = some i_tree_Check := rfl
theorem t_tree_deep : tab n_tree_deep = some i_tree_deep := rfl
theorem t_tree_deep_1 : tab n_tree_deep_1 = some i_tree_deep_1 := rfl
theorem t_slices_ContainsFunc_sl_api_Tree_api_Tree : tab n_slices_ContainsFunc_sl_api_Tree_api_Tree = some i_slices_ContainsFunc_sl_api_Tree_api_Tree := rfl
theorem t_slices_IndexFunc_sl_api_Tree_api_Tree : tab n_slices_IndexFunc_sl_api_Tree_api_Tree = some i_slices_IndexFunc_sl_api_Tree_api_Tree := rfl
theorem t_tree_formed : tab n_tree_formed = some i_tree_formed := rfl
theorem t_tree_formed_1 : tab n_tree_formed_1 = some i_tree_formed_1 := rfl
theorem t_code_long : tab n_code_long = some i_code_long := rfl
theorem t_code_write : tab n_code_write = some i_code_write := rfl
def G0 : Cf := ⟨fun _ => [], true⟩
@[go_sem] theorem G0_gf : G0.gf = true := rfl
@[go_sem] theorem lt_law14_EntryBack : (n_law14_EntryBack < 1000000) = True := eq_true (by decide)
@[go_sem] theorem lt_law14_up : (n_law14_up < 1000000) = True := eq_true (by decide)
@[go_sem] theorem lt_entry_WriteLog : (n_entry_WriteLog < 1000000) = True := eq_true (by decide)
@[go_sem] theorem lt_entry_writer_counts : (n_entry_writer_counts < 1000000) = True := eq_true (by decide)
@[go_sem] theorem lt_coder_Number : (n_coder_Number < 1000000) = True := eq_true (by decide)
@[go_sem] theorem lt_entry_writer_members : (n_entry_writer_members < 1000000) = True := eq_true (by decide)
@[go_sem] theorem lt_entry_writer_entries : (n_entry_writer_entries < 1000000) = True := eq_true (by decide)
@[go_sem] theorem lt_entry_writer_bytes : (n_entry_writer_bytes < 1000000) = True := eq_true (by decide)
@[go_sem] theorem lt_coder_Bytes : (n_coder_Bytes < 1000000) = True := eq_true (by decide)
@[go_sem] theorem lt_entry_writer_end : (n_entry_writer_end < 1000000) = True := eq_true (by decide)
@[go_sem] theorem lt_entry_Read : (n_entry_Read < 1000000) = True := eq_true (by decide)
@[go_sem] theorem lt_coder_NewReader : (n_coder_NewReader < 1000000) = True := eq_true (by decide)
@[go_sem] theorem lt_slices_Clone_sl_byte_byte : (n_slices_Clone_sl_byte_byte < 1000000) = True := eq_true (by decide)
@[go_sem] theorem lt_entry_reader_count : (n_entry_reader_count < 1000000) = True := eq_true (by decide)
@[go_sem] theorem lt_coder_Reader_Number : (n_coder_Reader_Number < 1000000) = True := eq_true (by decide)
@[go_sem] theorem lt_coder_Reader_Byte : (n_coder_Reader_Byte < 1000000) = True := eq_true (by decide)
@[go_sem] theorem lt_coder_Reader_take : (n_coder_Reader_take < 1000000) = True := eq_true (by decide)
@[go_sem] theorem lt_entry_reader_entries : (n_entry_reader_entries < 1000000) = True := eq_true (by decide)
@[go_sem] theorem lt_entry_reader_fine : (n_entry_reader_fine < 1000000) = True := eq_true (by decide)
@[go_sem] theorem lt_coder_Reader_End : (n_coder_Reader_End < 1000000) = True := eq_true (by decide)
@[go_sem] theorem lt_coder_Reader_Bytes : (n_coder_Reader_Bytes < 1000000) = True := eq_true (by decide)
@[go_sem] theorem lt_entry_reader_members : (n_entry_reader_members < 1000000) = True := eq_true (by decide)
@[go_sem] theorem lt_code_Read : (n_code_Read < 1000000) = True := eq_true (by decide)
@[go_sem] theorem lt_code_Read_1 : (n_code_Read_1 < 1000000) = True := eq_true (by decide)
@[go_sem] theorem lt_entry_reader_end : (n_entry_reader_end < 1000000) = True := eq_true (by decide)
@[go_sem] theorem lt_law14_few : (n_law14_few < 1000000) = True := eq_true (by decide)
@[go_sem] theorem lt_ref04_Light : (n_ref04_Light < 1000000) = True := eq_true (by decide)
@[go_sem] theorem lt_entry_ReadLog : (n_entry_ReadLog < 1000000) = True := eq_true (by decide)
@[go_sem] theorem lt_entry_Write : (n_entry_Write < 1000000) = True := eq_true (by decide)
@[go_sem] theorem lt_code_Write : (n_code_Write < 1000000) = True := eq_true (by decide)
@[go_sem] theorem lt_tree_Check : (n_tree_Check < 1000000) = True := eq_true (by decide)
@[go_sem] theorem lt_tree_deep : (n_tree_deep < 1000000) = True := eq_true (by decide)
@[go_sem] theorem lt_tree_deep_1 : (n_tree_deep_1 < 1000000) = True := eq_true (by decide)
@[go_sem] theorem lt_slices_ContainsFunc_sl_api_Tree_api_Tree : (n_slices_ContainsFunc_sl_api_Tree_api_Tree < 1000000) = True := eq_true (by decide)
@[go_sem] theorem lt_slices_IndexFunc_sl_api_Tree_api_Tree : (n_slices_IndexFunc_sl_api_Tree_api_Tree < 1000000) = True := eq_true (by decide)
@[go_sem] theorem lt_tree_formed : (n_tree_formed < 1000000) = True := eq_true (by decide)
@[go_sem] theorem lt_tree_formed_1 : (n_tree_formed_1 < 1000000) = True := eq_true (by decide)
@[go_sem] theorem lt_code_long : (n_code_long < 1000000) = True := eq_true (by decide)
@[go_sem] theorem lt_code_write : (n_code_write < 1000000) = True := eq_true (by decide)
theorem ca_law14_EntryBack (l : List AV) : cArgs tab n_law14_EntryBack l = canonA [] l := rfl
attribute [go_sem] t_law14_EntryBack ca_law14_EntryBack
theorem ca_law14_up (l : List AV) : cArgs tab n_law14_up l = canonA [] l := rfl
attribute [go_sem] t_law14_up ca_law14_up
theorem ca_entry_WriteLog (l : List AV) : cArgs tab n_entry_WriteLog l = canonA [] l := rfl
attribute [go_sem] t_entry_WriteLog ca_entry_WriteLog
theorem ca_entry_writer_counts (l : List AV) : cArgs tab n_entry_writer_counts l = canonA [] l := rfl
attribute [go_sem] t_entry_writer_counts ca_entry_writer_counts
theorem ca_coder_Number (l : List AV) : cArgs tab n_coder_Number l = canonA [] l := rfl
attribute [go_sem] t_coder_Number ca_coder_Number
theorem ca_entry_writer_members (l : List AV) : cArgs tab n_entry_writer_members l = canonA [] l := rfl
attribute [go_sem] t_entry_writer_members ca_entry_writer_members
theorem ca_entry_writer_entries (l : List AV) : cArgs tab n_entry_writer_entries l = canonA [] l := rfl
attribute [go_sem] t_entry_writer_entries ca_entry_writer_entries
theorem ca_entry_writer_bytes (l : List AV) : cArgs tab n_entry_writer_bytes l = canonA [] l := rfl
attribute [go_sem] t_entry_writer_bytes ca_entry_writer_bytes
theorem ca_coder_Bytes (l : List AV) : cArgs tab n_coder_Bytes l = canonA [] l := rfl
attribute [go_sem] t_coder_Bytes ca_coder_Bytes
theorem ca_entry_writer_end (l : List AV) : cArgs tab n_entry_writer_end l = canonA [] l := rfl
attribute [go_sem] t_entry_writer_end ca_entry_writer_end
theorem ca_entry_Read (l : List AV) : cArgs tab n_entry_Read l = canonA [] l := rfl
attribute [go_sem] t_entry_Read ca_entry_Read
theorem ca_coder_NewReader (l : List AV) : cArgs tab n_coder_NewReader l = canonA [] l := rfl
attribute [go_sem] t_coder_NewReader ca_coder_NewReader
theorem ca_slices_Clone_sl_byte_byte (l : List AV) : cArgs tab n_slices_Clone_sl_byte_byte l = canonA [] l := rfl
attribute [go_sem] t_slices_Clone_sl_byte_byte ca_slices_Clone_sl_byte_byte
theorem ca_entry_reader_count (l : List AV) : cArgs tab n_entry_reader_count l = canonA [] l := rfl
attribute [go_sem] t_entry_reader_count ca_entry_reader_count
theorem ca_coder_Reader_Number (l : List AV) : cArgs tab n_coder_Reader_Number l = canonA [] l := rfl
attribute [go_sem] t_coder_Reader_Number ca_coder_Reader_Number
theorem ca_coder_Reader_Byte (l : List AV) : cArgs tab n_coder_Reader_Byte l = canonA [] l := rfl
attribute [go_sem] t_coder_Reader_Byte ca_coder_Reader_Byte
theorem ca_coder_Reader_take (l : List AV) : cArgs tab n_coder_Reader_take l = canonA [] l := rfl
attribute [go_sem] t_coder_Reader_take ca_coder_Reader_take
theorem ca_entry_reader_entries (l : List AV) : cArgs tab n_entry_reader_entries l = canonA [] l := rfl
attribute [go_sem] t_entry_reader_entries ca_entry_reader_entries
theorem ca_entry_reader_fine (l : List AV) : cArgs tab n_entry_reader_fine l = canonA [] l := rfl
attribute [go_sem] t_entry_reader_fine ca_entry_reader_fine
theorem ca_coder_Reader_End (l : List AV) : cArgs tab n_coder_Reader_End l = canonA [] l := rfl
attribute [go_sem] t_coder_Reader_End ca_coder_Reader_End
theorem ca_coder_Reader_Bytes (l : List AV) : cArgs tab n_coder_Reader_Bytes l = canonA [] l := rfl
attribute [go_sem] t_coder_Reader_Bytes ca_coder_Reader_Bytes
theorem ca_entry_reader_members (l : List AV) : cArgs tab n_entry_reader_members l = canonA [] l := rfl
attribute [go_sem] t_entry_reader_members ca_entry_reader_members
theorem ca_code_Read (l : List AV) : cArgs tab n_code_Read l = canonA [] l := rfl
attribute [go_sem] t_code_Read ca_code_Read
theorem ca_code_Read_1 (l : List AV) : cArgs tab n_code_Read_1 l = canonA [] l := rfl
attribute [go_sem] t_code_Read_1 ca_code_Read_1
theorem ca_entry_reader_end (l : List AV) : cArgs tab n_entry_reader_end l = canonA [] l := rfl
attribute [go_sem] t_entry_reader_end ca_entry_reader_end
theorem ca_law14_few (l : List AV) : cArgs tab n_law14_few l = canonA [] l := rfl
attribute [go_sem] t_law14_few ca_law14_few
theorem ca_ref04_Light (l : List AV) : cArgs tab n_ref04_Light l = canonA [] l := rfl
attribute [go_sem] t_ref04_Light ca_ref04_Light
theorem ca_entry_ReadLog (l : List AV) : cArgs tab n_entry_ReadLog l = canonA [] l := rfl
attribute [go_sem] t_entry_ReadLog ca_entry_ReadLog
theorem ca_entry_Write (l : List AV) : cArgs tab n_entry_Write l = canonA [] l := rfl
attribute [go_sem] t_entry_Write ca_entry_Write
theorem ca_code_Write (l : List AV) : cArgs tab n_code_Write l = canonA [] l := rfl
attribute [go_sem] t_code_Write ca_code_Write
theorem ca_tree_Check (l : List AV) : cArgs tab n_tree_Check l = canonA [] l := rfl
attribute [go_sem] t_tree_Check ca_tree_Check
theorem ca_tree_deep (l : List AV) : cArgs tab n_tree_deep l = canonA [] l := rfl
attribute [go_sem] t_tree_deep ca_tree_deep
theorem ca_tree_deep_1 (l : List AV) : cArgs tab n_tree_deep_1 l = canonA [] l := rfl
attribute [go_sem] t_tree_deep_1 ca_tree_deep_1
theorem ca_slices_ContainsFunc_sl_api_Tree_api_Tree (l : List AV) : cArgs tab n_slices_ContainsFunc_sl_api_Tree_api_Tree l = canonA [] l := rfl
attribute [go_sem] t_slices_ContainsFunc_sl_api_Tree_api_Tree ca_slices_ContainsFunc_sl_api_Tree_api_Tree
theorem ca_slices_IndexFunc_sl_api_Tree_api_Tree (l : List AV) : cArgs tab n_slices_IndexFunc_sl_api_Tree_api_Tree l = canonA [] l := rfl
attribute [go_sem] t_slices_IndexFunc_sl_api_Tree_api_Tree ca_slices_IndexFunc_sl_api_Tree_api_Tree
theorem ca_tree_formed (l : List AV) : cArgs tab n_tree_formed l = canonA [] l := rfl
attribute [go_sem] t_tree_formed ca_tree_formed
theorem ca_tree_formed_1 (l : List AV) : cArgs tab n_tree_formed_1 l = canonA [] l := rfl
attribute [go_sem] t_tree_formed_1 ca_tree_formed_1
theorem ca_code_long (l : List AV) : cArgs tab n_code_long l = canonA [] l := rfl
attribute [go_sem] t_code_long ca_code_long
theorem ca_code_write (l : List AV) : cArgs tab n_code_write l = canonA [i_,o_] l := rfl
attribute [go_sem] t_code_write ca_code_write
@[go_sem] theorem kt_law14_EntryBack_r (l : List AV) : keepT i_law14_EntryBack_r l = keepT [o_,o_,o_,o_,o_,o_,i_,o_,o_,o_,o_,o_,o_,o_,o_,o_,o_,o_,o_,o_,o_,o_,o_,o_,o_,o_,o_,o_,o_,o_,o_,o_,o_,o_,o_,o_,o_,o_,o_,o_,o_,o_,o_,o_,o_,o_,o_,o_,o_,o_,o_,o_,o_,o_,o_,o_,o_,o_,o_,o_,o_,o_,o_,o_,o_,o_,o_,o_,o_,o_,o_,o_,o_,o_,o_,o_,o_,o_,o_,o_,o_,o_,o_,o_,o_,o_,o_,o_,o_,o_,o_,o_,o_,o_,o_,o_,o_,o_,o_,o_,o_,o_,o_,o_,o_,o_,o_,o_,o_,o_,o_,o_,o_,o_,o_,o_,o_,o_,o_,o_,o_,o_,o_,o_,o_,o_,o_,o_,o_,o_,o_,o_,o_,o_,o_,o_,o_,o_,o_,o_,o_,o_,o_,o_,o_,o_,o_,o_,o_,o_,o_,o_,o_,o_,o_,o_,o_,o_,o_,o_,o_,o_,o_,o_,o_,o_,o_,o_,o_,o_,o_,o_,o_,o_,o_,o_,o_,o_,o_,o_,o_,o_,o_,o_,o_,o_,o_,o_,o_,o_,o_,o_,o_] l := rfl
@[go_sem] theorem kt_law14_up_r (l : List AV) : keepT i_law14_up_r l = keepT [i_,o_,o_,o_,o_,o_,o_,o_,o_,o_,o_,o_,o_,o_,o_,o_,o_,o_,o_,o_,o_,o_,o_,o_,o_,o_] l := rfl
@[go_sem] theorem kt_entry_WriteLog_r (l : List AV) : keepT i_entry_WriteLog_r l = keepT [o_,o_,i_,i_,o_,o_,o_,o_,o_,o_,o_,o_,o_,o_,o_,o_,o_,o_,o_,o_,o_,o_,o_,o_,o_,o_,o_,o_,o_] l := rfl
@[go_sem] theorem kt_entry_writer_counts_r (l : List AV) : keepT i_entry_writer_counts_r l = keepT [o_,o_,o_,o_,o_,o_,o_,o_,o_,o_,o_,o_,o_,o_,o_,o_,o_,o_,o_,o_,o_,o_,o_,o_,o_,o_,o_,o_,o_,o_,o_,o_,o_] l := rfl
@[go_sem] theorem kt_entry_writer_counts_j1 (l : List AV) : keepT i_entry_writer_counts_j1 l = keepT [i_,o_,o_,o_,o_,o_,i_,i_,i_,o_,o_,o_,o_,o_,o_,o_,o_,o_,o_,o_,o_,o_,o_,o_,o_,o_,o_,o_,o_,o_,o_,o_,o_] l := rfl
@[go_sem] theorem kt_entry_writer_counts_k0 (l : List AV) : keepT i_entry_writer_counts_k0 l = keepT [i_,o_,o_,o_,o_,o_,i_,i_,i_,o_,o_,o_,o_,o_,o_,o_,o_,o_,o_,o_,o_,o_,o_,o_,o_,o_,o_,o_,o_,o_,o_,o_,o_] l := rfl
@[go_sem] theorem kt_entry_writer_counts_j0 (l : List AV) : keepT i_entry_writer_counts_j0 l = keepT [o_,o_,o_,o_,o_,o_,o_,o_,o_,o_,o_,o_,o_,o_,o_,o_,o_,o_,o_,o_,o_,o_,o_,o_,o_,o_,o_,o_,o_,o_,o_,o_,o_] l := rfl
@[go_sem] theorem kt_coder_Number_r (l : List AV) : keepT i_coder_Number_r l = keepT [o_,o_,i_,o_,o_,o_,o_,o_,o_,o_,o_,o_,o_,o_,o_,o_,o_,o_,o_,o_,o_,o_,o_,o_,o_,o_,o_,o_,o_,o_,o_,o_,o_,o_,o_,o_,o_,o_,o_,o_,o_,o_,o_] l := rfl
@[go_sem] theorem kt_coder_Number_j1 (l : List AV) : keepT i_coder_Number_j1 l = keepT [i_,o_,o_,i_,o_,o_,o_,o_,o_,o_,o_,o_,o_,o_,o_,o_,o_,o_,o_,o_,o_,o_,o_,o_,o_,o_,o_,o_,o_,o_,o_,o_,o_,o_,o_,o_,o_,o_,o_,o_,o_,o_,o_] l := rfl
@[go_sem] theorem kt_coder_Number_k0 (l : List AV) : keepT i_coder_Number_k0 l = keepT [i_,o_,o_,i_,o_,o_,o_,o_,o_,o_,o_,o_,o_,o_,o_,o_,o_,o_,o_,o_,o_,o_,o_,o_,o_,o_,o_,o_,o_,o_,o_,o_,o_,o_,o_,o_,o_,o_,o_,o_,o_,o_,o_] l := rfl
@[go_sem] theorem kt_coder_Number_j0 (l : List AV) : keepT i_coder_Number_j0 l = keepT [i_,o_,o_,i_,o_,o_,o_,o_,o_,o_,o_,o_,o_,o_,o_,o_,o_,o_,o_,o_,o_,o_,o_,o_,o_,o_,o_,o_,o_,o_,o_,o_,o_,o_,o_,o_,o_,o_,o_,o_,o_,o_,o_] l := rfl
@[go_sem] theorem kt_coder_Number_j3 (l : List AV) : keepT i_coder_Number_j3 l = keepT [i_,o_,o_,i_,i_,o_,o_,o_,o_,o_,o_,o_,o_,o_,o_,o_,o_,o_,o_,o_,o_,o_,o_,o_,o_,o_,i_,i_,o_,o_,o_,o_,o_,o_,o_,o_,o_,o_,o_,o_,o_,o_,o_] l := rfl
@[go_sem] theorem kt_coder_Number_k1 (l : List AV) : keepT i_coder_Number_k1 l = keepT [i_,o_,o_,i_,i_,o_,o_,o_,o_,o_,o_,o_,o_,o_,o_,o_,o_,o_,o_,o_,o_,o_,o_,o_,o_,o_,i_,i_,o_,o_,o_,o_,o_,o_,o_,o_,o_,o_,o_,o_,o_,o_,o_] l := rfl
@[go_sem] theorem kt_coder_Number_j2 (l : List AV) : keepT i_coder_Number_j2 l = keepT [o_,o_,o_,o_,i_,o_,o_,o_,o_,o_,o_,o_,o_,o_,o_,o_,o_,o_,o_,o_,o_,o_,o_,o_,o_,o_,o_,o_,o_,o_,o_,o_,o_,o_,o_,o_,o_,o_,o_,o_,o_,o_,o_] l := rfl
@[go_sem] theorem kt_entry_writer_members_r (l : List AV) : keepT i_entry_writer_members_r l = keepT [o_,o_,o_,o_,o_,o_,o_,o_,o_,o_,o_,o_] l := rfl
@[go_sem] theorem kt_entry_writer_entries_r (l : List AV) : keepT i_entry_writer_entries_r l = keepT [o_,o_,o_,o_,o_,o_,o_,o_,o_,o_,o_,o_,o_,o_,o_,o_,o_,o_,o_,o_,o_,o_,o_,o_,o_,o_,o_,o_,o_] l := rfl
@[go_sem] theorem kt_entry_writer_entries_j1 (l : List AV) : keepT i_entry_writer_entries_j1 l = keepT [i_,o_,o_,o_,o_,o_,o_,o_,o_,o_,o_,i_,i_,i_,o_,o_,o_,o_,o_,o_,o_,o_,o_,o_,o_,o_,o_,o_,o_] l := rfl
@[go_sem] theorem kt_entry_writer_entries_k0 (l : List AV) : keepT i_entry_writer_entries_k0 l = keepT [i_,o_,o_,o_,o_,o_,o_,o_,o_,o_,o_,i_,i_,i_,o_,o_,o_,o_,o_,o_,o_,o_,o_,o_,o_,o_,o_,o_,o_] l := rfl
@[go_sem] theorem kt_entry_writer_entries_j0 (l : List AV) : keepT i_entry_writer_entries_j0 l = keepT [o_,o_,o_,o_,o_,o_,o_,o_,o_,o_,o_,o_,o_,o_,o_,o_,o_,o_,o_,o_,o_,o_,o_,o_,o_,o_,o_,o_,o_] l := rfl
@[go_sem] theorem kt_entry_writer_bytes_r (l : List AV) : keepT i_entry_writer_bytes_r l = keepT [o_,o_,o_,o_,o_,o_,o_,o_,o_,o_,o_,o_,o_,o_,o_,o_,o_,o_,o_,o_,o_,o_,o_,o_,o_,o_,o_,o_,o_,o_,o_,o_,o_,o_] l := rfl
@[go_sem] theorem kt_coder_Bytes_r (l : List AV) : keepT i_coder_Bytes_r l = keepT [o_,o_,i_,o_,o_,o_,o_,o_,o_] l := rfl
@[go_sem] theorem kt_entry_writer_end_r (l : List AV) : keepT i_entry_writer_end_r l = keepT [o_,o_,i_,i_,o_,o_,o_,o_,o_,o_,o_,o_,o_,o_,o_,o_,o_,o_,o_,o_,o_,o_] l := rfl
@[go_sem] theorem kt_entry_writer_end_j0 (l : List AV) : keepT i_entry_writer_end_j0 l = keepT [i_,o_,o_,o_,o_,o_,o_,o_,o_,o_,o_,o_,o_,o_,o_,o_,o_,o_,o_,o_,o_,o_] l := rfl
@[go_sem] theorem kt_entry_Read_r (l : List AV) : keepT i_entry_Read_r l = keepT [o_,o_,i_,i_,o_,o_,o_,o_,o_,o_,o_,o_,o_,o_,o_,o_,o_,o_,o_,o_,o_,o_,o_,o_,o_,o_,o_,o_,o_,o_,o_,o_,o_,o_,o_,o_,o_,o_,o_,o_,o_,o_,o_,o_,o_,o_,o_,o_,o_,o_,o_,o_,o_,o_,o_,o_,o_,o_,o_,o_,o_,o_,o_,o_,o_,o_,o_,o_,o_,o_,o_,o_,o_,o_,o_,o_,o_,o_,o_,o_,o_,o_,o_,o_,o_,o_,o_,o_,o_,o_,o_,o_,o_,o_,o_,o_,o_] l := rfl
@[go_sem] theorem kt_coder_NewReader_r (l : List AV) : keepT i_coder_NewReader_r l = keepT [o_,o_,i_,o_,o_,o_,o_] l := rfl
@[go_sem] theorem kt_slices_Clone_sl_byte_byte_r (l : List AV) : keepT i_slices_Clone_sl_byte_byte_r l = keepT [o_,o_,i_,o_,o_,o_,o_,o_] l := rfl
@[go_sem] theorem kt_entry_reader_count_r (l : List AV) : keepT i_entry_reader_count_r l = keepT [o_,o_,i_,o_,o_,o_,o_,o_,o_,o_,o_,o_,o_,o_,o_,o_] l := rfl
@[go_sem] theorem kt_coder_Reader_Number_r (l : List AV) : keepT i_coder_Reader_Number_r l = keepT [o_,o_,i_,o_,o_,o_,o_,o_,o_,o_,o_,o_,o_,o_,o_,o_,o_,o_,o_,o_,o_,o_,o_,o_,o_,o_,o_,o_,o_,o_,o_,o_,o_,o_,o_,o_,o_,o_,o_,o_,o_,o_,o_,o_,o_,o_,o_,o_] l := rfl
@[go_sem] theorem kt_coder_Reader_Number_j1 (l : List AV) : keepT i_coder_Reader_Number_j1 l = keepT [i_,o_,o_,o_,i_,i_,o_,o_,o_,o_,o_,o_,o_,o_,o_,o_,o_,o_,o_,i_,i_,i_,o_,o_,o_,o_,o_,o_,o_,o_,o_,o_,o_,o_,o_,o_,o_,o_,o_,o_,o_,o_,o_,o_,o_,o_,o_,o_] l := rfl
@[go_sem] theorem kt_coder_Reader_Number_k0 (l : List AV) : keepT i_coder_Reader_Number_k0 l = keepT [i_,o_,o_,o_,i_,i_,o_,o_,o_,o_,o_,o_,o_,o_,o_,o_,o_,o_,o_,i_,i_,i_,o_,o_,o_,o_,o_,o_,o_,o_,o_,o_,o_,o_,o_,o_,o_,o_,o_,o_,o_,o_,o_,o_,o_,o_,o_,o_] l := rfl
@[go_sem] theorem kt_coder_Reader_Number_j0 (l : List AV) : keepT i_coder_Reader_Number_j0 l = keepT [i_,o_,o_,o_,i_,i_,o_,o_,o_,o_,o_,o_,o_,o_,o_,o_,o_,o_,o_,o_,o_,o_,o_,o_,o_,o_,o_,o_,o_,o_,o_,o_,o_,o_,o_,o_,o_,o_,o_,o_,o_,o_,o_,o_,o_,o_,o_,o_] l := rfl
@[go_sem] theorem kt_coder_Reader_Byte_r (l : List AV) : keepT i_coder_Reader_Byte_r l = keepT [o_,o_,i_,o_,o_,o_,o_,o_,o_,o_,o_,o_] l := rfl
@[go_sem] theorem kt_coder_Reader_take_r (l : List AV) : keepT i_coder_Reader_take_r l = keepT [o_,o_,o_,o_,i_,o_,o_,o_,o_,o_,o_,o_,o_,o_,o_,o_,o_,o_,o_,o_,o_,o_,o_,o_,o_,o_,o_,o_,o_,o_,o_,o_,o_,o_,o_,o_,o_,o_,o_] l := rfl
@[go_sem] theorem kt_entry_reader_entries_r (l : List AV) : keepT i_entry_reader_entries_r l = keepT [o_,o_,i_,o_,o_,o_,o_,o_,o_,o_,o_,o_,o_,o_,o_,o_,o_,o_,o_,o_,o_,o_,o_,o_,o_,o_,o_,o_,o_] l := rfl
@[go_sem] theorem kt_entry_reader_entries_j1 (l : List AV) : keepT i_entry_reader_entries_j1 l = keepT [i_,o_,o_,i_,i_,o_,o_,o_,o_,o_,o_,o_,o_,o_,o_,o_,o_,o_,o_,o_,o_,o_,o_,o_,o_,o_,o_,o_,o_] l := rfl
@[go_sem] theorem kt_entry_reader_entries_k0 (l : List AV) : keepT i_entry_reader_entries_k0 l = keepT [i_,o_,o_,i_,i_,o_,o_,o_,o_,o_,o_,o_,o_,o_,o_,o_,o_,o_,o_,o_,o_,o_,o_,o_,o_,o_,o_,o_,o_] l := rfl
@[go_sem] theorem kt_entry_reader_entries_j0 (l : List AV) : keepT i_entry_reader_entries_j0 l = keepT [o_,o_,o_,i_,o_,o_,o_,o_,o_,o_,o_,o_,o_,o_,o_,o_,o_,o_,o_,o_,o_,o_,o_,o_,o_,o_,o_,o_,o_] l := rfl
@[go_sem] theorem kt_entry_reader_fine_r (l : List AV) : keepT i_entry_reader_fine_r l = keepT [o_,o_,i_,o_,o_,o_,o_,o_,o_,o_,o_,o_,o_,o_,o_,o_,o_] l := rfl
@[go_sem] theorem kt_coder_Reader_End_r (l : List AV) : keepT i_coder_Reader_End_r l = keepT [o_,o_,i_,o_,o_,o_,o_,o_,o_,o_,o_,o_,o_,o_,o_,o_,o_] l := rfl
@[go_sem] theorem kt_coder_Reader_End_j0 (l : List AV) : keepT i_coder_Reader_End_j0 l = keepT [o_,o_,o_,o_,o_,o_,o_,o_,o_,o_,o_,o_,o_,o_,o_,o_,o_] l := rfl
@[go_sem] theorem kt_coder_Reader_Bytes_r (l : List AV) : keepT i_coder_Reader_Bytes_r l = keepT [o_,o_,o_,o_,i_,o_,o_,o_,o_,o_,o_,o_,o_,o_,o_,o_,o_,o_,o_,o_,o_,o_,o_,o_,o_,o_,o_,o_,o_,o_,o_,o_,o_,o_,o_,o_,o_,o_,o_] l := rfl
@[go_sem] theorem kt_entry_reader_members_r (l : List AV) : keepT i_entry_reader_members_r l = keepT [o_,o_,i_,o_,o_,o_,o_,o_,o_,o_,o_,o_,o_,o_,o_,o_,o_,o_,o_,o_,o_] l := rfl
@[go_sem] theorem kt_entry_reader_members_j1 (l : List AV) : keepT i_entry_reader_members_j1 l = keepT [i_,o_,o_,i_,i_,o_,o_,o_,o_,o_,o_,o_,o_,o_,o_,o_,o_,o_,o_,o_,o_] l := rfl
@[go_sem] theorem kt_entry_reader_members_k0 (l : List AV) : keepT i_entry_reader_members_k0 l = keepT [i_,o_,o_,i_,i_,o_,o_,o_,o_,o_,o_,o_,o_,o_,o_,o_,o_,o_,o_,o_,o_] l := rfl
@[go_sem] theorem kt_entry_reader_members_j0 (l : List AV) : keepT i_entry_reader_members_j0 l = keepT [o_,o_,o_,i_,o_,o_,o_,o_,o_,o_,o_,o_,o_,o_,o_,o_,o_,o_,o_,o_,o_] l := rfl
@[go_sem] theorem kt_code_Read_r (l : List AV) : keepT i_code_Read_r l = keepT [o_,o_,i_,i_,o_,o_,o_,o_,o_,o_,o_,o_,o_,o_,o_,o_,o_,o_,o_,o_,o_,o_,o_,o_,o_,o_,o_,o_,o_,o_,o_] l := rfl
@[go_sem] theorem kt_code_Read_j0 (l : List AV) : keepT i_code_Read_j0 l = keepT [o_,o_,i_,o_,o_,o_,o_,i_,o_,o_,o_,o_,o_,o_,o_,o_,o_,o_,o_,o_,o_,o_,o_,o_,o_,o_,o_,o_,o_,o_,o_] l := rfl
@[go_sem] theorem kt_code_Read_1_r (l : List AV) : keepT i_code_Read_1_r l = keepT [o_,o_,o_,o_,o_,i_,o_,o_,o_,o_,o_,o_,o_,o_,o_,o_,o_,o_,o_,o_,o_,o_,o_,o_,o_,o_,o_,o_,o_,o_,o_,o_,o_,o_,o_,o_,o_,o_,o_,o_,o_,o_,o_,o_,o_,o_,o_,o_,o_,o_,o_,o_,o_,o_,o_,o_,o_,o_,o_,o_,o_,o_,o_,o_] l := rfl
@[go_sem] theorem kt_code_Read_1_j0 (l : List AV) : keepT i_code_Read_1_j0 l = keepT [i_,i_,i_,i_,o_,i_,i_,o_,o_,o_,o_,o_,o_,o_,o_,o_,o_,o_,o_,o_,o_,o_,o_,o_,o_,o_,o_,o_,o_,o_,o_,o_,o_,o_,o_,o_,o_,o_,o_,o_,o_,o_,o_,o_,o_,o_,o_,o_,o_,o_,o_,o_,o_,o_,o_,o_,o_,o_,o_,o_,o_,o_,o_,o_] l := rfl
@[go_sem] theorem kt_entry_reader_end_r (l : List AV) : keepT i_entry_reader_end_r l = keepT [o_,o_,i_,o_,o_,o_,o_,o_,o_,o_,o_,o_] l := rfl
@[go_sem] theorem kt_law14_few_r (l : List AV) : keepT i_law14_few_r l = keepT [o_,o_,i_,o_,o_,o_,o_,o_,o_,o_,o_,o_,o_,o_,o_,o_,o_,o_,o_,o_] l := rfl
@[go_sem] theorem kt_law14_few_j1 (l : List AV) : keepT i_law14_few_j1 l = keepT [i_,o_,o_,i_,o_,o_,o_,o_,o_,o_,o_,o_,o_,o_,o_,o_,o_,o_,o_,o_] l := rfl
@[go_sem] theorem kt_law14_few_k0 (l : List AV) : keepT i_law14_few_k0 l = keepT [i_,o_,o_,i_,o_,o_,o_,o_,o_,o_,o_,o_,o_,o_,o_,o_,o_,o_,o_,o_] l := rfl
@[go_sem] theorem kt_law14_few_j0 (l : List AV) : keepT i_law14_few_j0 l = keepT [o_,o_,o_,o_,o_,o_,o_,o_,o_,o_,o_,o_,o_,o_,o_,o_,o_,o_,o_,o_] l := rfl
@[go_sem] theorem kt_ref04_Light_r (l : List AV) : keepT i_ref04_Light_r l = keepT [o_,o_,o_,o_,o_,o_,i_,o_,o_,o_,o_,o_,o_,o_,o_,o_,o_,o_,o_,o_,o_,o_,o_,o_,o_,o_,o_,o_,o_,o_,o_,o_,o_,o_,o_,o_,o_,o_,o_,o_,o_,o_,o_,o_,o_,o_,o_,o_,o_,o_,o_,o_,o_,o_,o_,o_,o_,o_,o_,o_] l := rfl
@[go_sem] theorem kt_ref04_Light_j1 (l : List AV) : keepT i_ref04_Light_j1 l = keepT [o_,i_,i_,i_,o_,o_,o_,i_,o_,o_,o_,o_,o_,o_,o_,o_,o_,o_,o_,o_,o_,o_,o_,o_,o_,o_,o_,o_,o_,o_,o_,o_,o_,o_,o_,o_,o_,o_,o_,o_,o_,o_,o_,o_,o_,o_,o_,o_,o_,o_,o_,o_,o_,o_,o_,o_,o_,o_,o_,o_] l := rfl
@[go_sem] theorem kt_ref04_Light_k0 (l : List AV) : keepT i_ref04_Light_k0 l = keepT [o_,i_,i_,i_,o_,o_,o_,i_,o_,o_,o_,o_,o_,o_,o_,o_,o_,o_,o_,o_,o_,o_,o_,o_,o_,o_,o_,o_,o_,o_,o_,o_,o_,o_,o_,o_,o_,o_,o_,o_,o_,o_,o_,o_,o_,o_,o_,o_,o_,o_,o_,o_,o_,o_,o_,o_,o_,o_,o_,o_] l := rfl
@[go_sem] theorem kt_ref04_Light_j0 (l : List AV) : keepT i_ref04_Light_j0 l = keepT [o_,i_,o_,o_,o_,o_,o_,o_,o_,o_,o_,o_,o_,o_,o_,o_,o_,o_,o_,o_,o_,o_,o_,o_,o_,o_,o_,o_,o_,o_,o_,o_,o_,o_,o_,o_,o_,o_,o_,o_,o_,o_,o_,o_,o_,o_,o_,o_,o_,o_,o_,o_,o_,o_,o_,o_,o_,o_,o_,o_] l := rfl
@[go_sem] theorem kt_entry_ReadLog_r (l : List AV) : keepT i_entry_ReadLog_r l = keepT [o_,o_,i_,i_,o_,o_,o_,o_,o_,o_,o_,o_,o_,o_,o_,o_,o_,o_,o_,o_,o_,o_,o_,o_,o_,o_,o_,o_,o_,o_,o_,o_,o_] l := rfl
@[go_sem] theorem kt_entry_Write_r (l : List AV) : keepT i_entry_Write_r l = keepT [o_,o_,i_,i_,o_,o_,o_,o_,o_,o_,o_,o_,o_,o_,o_,o_,o_,o_,o_,o_,o_,o_,o_,o_,o_,o_,o_,o_,o_,o_,o_,o_,o_,o_,o_,o_,o_,o_,o_,o_,o_,o_,o_,o_,o_,o_,o_,o_,o_,o_,o_,o_,o_,o_,o_,o_,o_,o_,o_,o_,o_,o_,o_,o_,o_,o_,o_,o_,o_,o_,o_,o_,o_,o_,o_,o_,o_,o_,o_,o_,o_,o_] l := rfl
@[go_sem] theorem kt_code_Write_r (l : List AV) : keepT i_code_Write_r l = keepT [o_,o_,i_,i_,o_,o_,o_,o_,o_,o_,o_,o_,o_,o_,o_] l := rfl
@[go_sem] theorem kt_tree_Check_r (l : List AV) : keepT i_tree_Check_r l = keepT [o_,o_,i_,o_,o_,o_,o_,o_,o_,o_,o_,o_] l := rfl
@[go_sem] theorem kt_tree_Check_j0 (l : List AV) : keepT i_tree_Check_j0 l = keepT [o_,o_,o_,o_,o_,o_,o_,o_,o_,o_,o_,o_] l := rfl
@[go_sem] theorem kt_tree_deep_r (l : List AV) : keepT i_tree_deep_r l = keepT [o_,o_,o_,o_,i_,o_,o_,o_,o_,o_,o_,o_,o_,o_,o_,o_,o_,o_,o_,o_,o_,o_,o_,o_,o_,o_,o_,o_,o_] l := rfl
@[go_sem] theorem kt_tree_deep_1_r (l : List AV) : keepT i_tree_deep_1_r l = keepT [o_,o_,o_,i_,o_,o_,o_,o_] l := rfl
@[go_sem] theorem kt_slices_ContainsFunc_sl_api_Tree_api_Tree_r (l : List AV) : keepT i_slices_ContainsFunc_sl_api_Tree_api_Tree_r l = keepT [o_,o_,o_,o_,i_,o_,o_,o_,o_] l := rfl
@[go_sem] theorem kt_slices_IndexFunc_sl_api_Tree_api_Tree_r (l : List AV) : keepT i_slices_IndexFunc_sl_api_Tree_api_Tree_r l = keepT [o_,o_,o_,o_,i_,o_,o_,o_,o_,o_,o_,o_,o_,o_,o_,o_,o_,o_,o_] l := rfl
@[go_sem] theorem kt_slices_IndexFunc_sl_api_Tree_api_Tree_j1 (l : List AV) : keepT i_slices_IndexFunc_sl_api_Tree_api_Tree_j1 l = keepT [i_,i_,o_,o_,o_,o_,o_,i_,i_,o_,o_,o_,o_,o_,o_,o_,o_,o_,o_] l := rfl
@[go_sem] theorem kt_slices_IndexFunc_sl_api_Tree_api_Tree_k0 (l : List AV) : keepT i_slices_IndexFunc_sl_api_Tree_api_Tree_k0 l = keepT [i_,i_,o_,o_,o_,o_,o_,i_,i_,o_,o_,o_,o_,o_,o_,o_,o_,o_,o_] l := rfl
@[go_sem] theorem kt_slices_IndexFunc_sl_api_Tree_api_Tree_j0 (l : List AV) : keepT i_slices_IndexFunc_sl_api_Tree_api_Tree_j0 l = keepT [o_,o_,o_,o_,o_,o_,o_,o_,o_,o_,o_,o_,o_,o_,o_,o_,o_,o_,o_] l := rfl
@[go_sem] theorem kt_tree_formed_r (l : List AV) : keepT i_tree_formed_r l = keepT [o_,o_,i_,o_,o_,o_,o_,o_,o_,o_,o_,o_,o_,o_,o_,o_,o_,o_,o_,o_,o_,o_,o_,o_,o_,o_,o_,o_,o_,o_,o_,o_,o_,o_,o_,o_,o_,o_,o_,o_,o_,o_,o_,o_,o_,o_,o_,o_,o_,o_,o_,o_,o_,o_,o_,o_,o_,o_,o_,o_,o_,o_,o_,o_,o_,o_,o_,o_,o_,o_,o_,o_,o_,o_,o_,o_,o_,o_,o_,o_,o_,o_,o_,o_,o_,o_,o_] l := rfl
@[go_sem] theorem kt_tree_formed_j0 (l : List AV) : keepT i_tree_formed_j0 l = keepT [o_,i_,o_,i_,o_,o_,o_,o_,o_,o_,o_,o_,o_,o_,o_,o_,o_,o_,o_,o_,o_,o_,o_,o_,o_,o_,o_,o_,o_,o_,o_,o_,o_,o_,o_,o_,o_,o_,o_,o_,o_,o_,o_,o_,o_,o_,o_,o_,o_,o_,o_,o_,o_,o_,o_,o_,o_,o_,o_,o_,o_,o_,o_,o_,o_,o_,o_,o_,o_,o_,o_,o_,o_,o_,o_,o_,o_,o_,o_,o_,o_,o_,o_,o_,o_,o_,o_] l := rfl
@[go_sem] theorem kt_tree_formed_1_r (l : List AV) : keepT i_tree_formed_1_r l = keepT [o_,o_,i_,o_,o_,o_] l := rfl
@[go_sem] theorem kt_code_long_r (l : List AV) : keepT i_code_long_r l = keepT [o_,o_,i_,o_,o_,o_,o_,o_,o_,o_,o_,o_,o_,o_,o_,o_,o_,o_,o_] l := rfl
@[go_sem] theorem kt_code_long_j1 (l : List AV) : keepT i_code_long_j1 l = keepT [o_,o_,o_,o_,o_,o_,o_,o_,o_,o_,i_,i_,i_,o_,o_,o_,o_,o_,o_] l := rfl
@[go_sem] theorem kt_code_long_k0 (l : List AV) : keepT i_code_long_k0 l = keepT [o_,o_,o_,o_,o_,o_,o_,o_,o_,o_,i_,i_,i_,o_,o_,o_,o_,o_,o_] l := rfl
@[go_sem] theorem kt_code_long_j0 (l : List AV) : keepT i_code_long_j0 l = keepT [o_,o_,o_,o_,o_,o_,o_,o_,o_,o_,o_,o_,o_,o_,o_,o_,o_,o_,o_] l := rfl
@[go_sem] theorem kt_code_write_r (l : List AV) : keepT i_code_write_r l = keepT [o_,o_,o_,o_,i_,o_,o_,o_,o_,o_,o_,o_,o_,o_,o_,o_,o_,o_,o_,o_,o_,o_,o_,o_,o_,o_,o_,o_,o_,o_,o_,o_,o_,o_,o_,o_,o_,o_,o_,o_,o_,o_,o_,o_,o_,o_,o_,o_,o_,o_,o_,o_,o_,o_,o_,o_] l := rfl
@[go_sem] theorem kt_code_write_j0 (l : List AV) : keepT i_code_write_j0 l = keepT [i_,o_,o_,i_,o_,o_,o_,o_,o_,o_,o_,o_,o_,o_,o_,o_,o_,o_,o_,o_,o_,o_,o_,o_,o_,o_,o_,o_,o_,o_,o_,o_,o_,o_,o_,o_,o_,o_,o_,o_,o_,o_,o_,o_,o_,o_,o_,o_,o_,o_,o_,o_,o_,o_,o_,o_] l := rfl
@[go_sem] theorem kt_code_write_j2 (l : List AV) : keepT i_code_write_j2 l = keepT [i_,o_,o_,o_,o_,o_,o_,o_,o_,o_,o_,o_,o_,o_,o_,o_,o_,o_,o_,o_,o_,o_,o_,o_,o_,o_,o_,o_,o_,o_,o_,o_,o_,o_,o_,o_,o_,o_,o_,o_,o_,o_,o_,o_,o_,i_,i_,i_,o_,o_,o_,o_,o_,o_,o_,o_] l := rfl
@[go_sem] theorem kt_code_write_k0 (l : List AV) : keepT i_code_write_k0 l = keepT [i_,o_,o_,o_,o_,o_,o_,o_,o_,o_,o_,o_,o_,o_,o_,o_,o_,o_,o_,o_,o_,o_,o_,o_,o_,o_,o_,o_,o_,o_,o_,o_,o_,o_,o_,o_,o_,o_,o_,o_,o_,o_,o_,o_,o_,i_,i_,i_,o_,o_,o_,o_,o_,o_,o_,o_] l := rfl
@[go_sem] theorem kt_code_write_j1 (l : List AV) : keepT i_code_write_j1 l = keepT [i_,o_,o_,o_,o_,o_,o_,o_,o_,o_,o_,o_,o_,o_,o_,o_,o_,o_,o_,o_,o_,o_,o_,o_,o_,o_,o_,o_,o_,o_,o_,o_,o_,o_,o_,o_,o_,o_,o_,o_,o_,o_,o_,o_,o_,o_,o_,o_,o_,o_,o_,o_,o_,o_,o_,o_] l := rfl
noncomputable def L_entry_writer_counts_0 (st : St) : Option (Ex × St) := lp tab G0 2 i_entry_writer_counts_k0 i_entry_writer_counts_b0 st
theorem L_entry_writer_counts_0_eq (st : St) : L_entry_writer_counts_0 st = againL L_entry_writer_counts_0 2 i_entry_writer_counts_k0 (app tab G0 2 [] (ex tab G0 2 i_entry_writer_counts_b0 st)) := lp_eq tab G0 2 i_entry_writer_counts_k0 i_entry_writer_counts_b0 st
@[go_sem] theorem L_entry_writer_counts_0_in (K : List Fr) (st : St) : app tab G0 2 K (ex tab G0 2 (.loop i_entry_writer_counts_k0 i_entry_writer_counts_b0) st) = app tab G0 2 K (L_entry_writer_counts_0 (clean 2 i_entry_writer_counts_k0 st)) := rfl
noncomputable def L_coder_Number_0 (st : St) : Option (Ex × St) := lp tab G0 1 i_coder_Number_k0 i_coder_Number_b0 st
theorem L_coder_Number_0_eq (st : St) : L_coder_Number_0 st = againL L_coder_Number_0 1 i_coder_Number_k0 (app tab G0 1 [] (ex tab G0 1 i_coder_Number_b0 st)) := lp_eq tab G0 1 i_coder_Number_k0 i_coder_Number_b0 st
@[go_sem] theorem L_coder_Number_0_in (K : List Fr) (st : St) : app tab G0 1 K (ex tab G0 1 (.loop i_coder_Number_k0 i_coder_Number_b0) st) = app tab G0 1 K (L_coder_Number_0 (clean 1 i_coder_Number_k0 st)) := rfl
noncomputable def L_coder_Number_1 (st : St) : Option (Ex × St) := lp tab G0 1 i_coder_Number_k1 i_coder_Number_b1 st
theorem L_coder_Number_1_eq (st : St) : L_coder_Number_1 st = againL L_coder_Number_1 1 i_coder_Number_k1 (app tab G0 1 [] (ex tab G0 1 i_coder_Number_b1 st)) := lp_eq tab G0 1 i_coder_Number_k1 i_coder_Number_b1 st
@[go_sem] theorem L_coder_Number_1_in (K : List Fr) (st : St) : app tab G0 1 K (ex tab G0 1 (.loop i_coder_Number_k1 i_coder_Number_b1) st) = app tab G0 1 K (L_coder_Number_1 (clean 1 i_coder_Number_k1 st)) := rfl
noncomputable def L_entry_writer_entries_0 (st : St) : Option (Ex × St) := lp tab G0 4 i_entry_writer_entries_k0 i_entry_writer_entries_b0 st
theorem L_entry_writer_entries_0_eq (st : St) : L_entry_writer_entries_0 st = againL L_entry_writer_entries_0 4 i_entry_writer_entries_k0 (app tab G0 4 [] (ex tab G0 4 i_entry_writer_entries_b0 st)) := lp_eq tab G0 4 i_entry_writer_entries_k0 i_entry_writer_entries_b0 st
@[go_sem] theorem L_entry_writer_entries_0_in (K : List Fr) (st : St) : app tab G0 4 K (ex tab G0 4 (.loop i_entry_writer_entries_k0 i_entry_writer_entries_b0) st) = app tab G0 4 K (L_entry_writer_entries_0 (clean 4 i_entry_writer_entries_k0 st)) := rfl
noncomputable def L_coder_Reader_Number_0 (st : St) : Option (Ex × St) := lp tab G0 0 i_coder_Reader_Number_k0 i_coder_Reader_Number_b0 st
theorem L_coder_Reader_Number_0_eq (st : St) : L_coder_Reader_Number_0 st = againL L_coder_Reader_Number_0 0 i_coder_Reader_Number_k0 (app tab G0 0 [] (ex tab G0 0 i_coder_Reader_Number_b0 st)) := lp_eq tab G0 0 i_coder_Reader_Number_k0 i_coder_Reader_Number_b0 st
@[go_sem] theorem L_coder_Reader_Number_0_in (K : List Fr) (st : St) : app tab G0 0 K (ex tab G0 0 (.loop i_coder_Reader_Number_k0 i_coder_Reader_Number_b0) st) = app tab G0 0 K (L_coder_Reader_Number_0 (clean 0 i_coder_Reader_Number_k0 st)) := rfl
noncomputable def L_entry_reader_entries_0 (st : St) : Option (Ex × St) := lp tab G0 1 i_entry_reader_entries_k0 i_entry_reader_entries_b0 st
theorem L_entry_reader_entries_0_eq (st : St) : L_entry_reader_entries_0 st = againL L_entry_reader_entries_0 1 i_entry_reader_entries_k0 (app tab G0 1 [] (ex tab G0 1 i_entry_reader_entries_b0 st)) := lp_eq tab G0 1 i_entry_reader_entries_k0 i_entry_reader_entries_b0 st
@[go_sem] theorem L_entry_reader_entries_0_in (K : List Fr) (st : St) : app tab G0 1 K (ex tab G0 1 (.loop i_entry_reader_entries_k0 i_entry_reader_entries_b0) st) = app tab G0 1 K (L_entry_reader_entries_0 (clean 1 i_entry_reader_entries_k0 st)) := rfl
noncomputable def L_entry_reader_members_0 (st : St) : Option (Ex × St) := lp tab G0 1 i_entry_reader_members_k0 i_entry_reader_members_b0 st
theorem L_entry_reader_members_0_eq (st : St) : L_entry_reader_members_0 st = againL L_entry_reader_members_0 1 i_entry_reader_members_k0 (app tab G0 1 [] (ex tab G0 1 i_entry_reader_members_b0 st)) := lp_eq tab G0 1 i_entry_reader_members_k0 i_entry_reader_members_b0 st
@[go_sem] theorem L_entry_reader_members_0_in (K : List Fr) (st : St) : app tab G0 1 K (ex tab G0 1 (.loop i_entry_reader_members_k0 i_entry_reader_members_b0) st) = app tab G0 1 K (L_entry_reader_members_0 (clean 1 i_entry_reader_members_k0 st)) := rfl
noncomputable def L_law14_few_0 (st : St) : Option (Ex × St) := lp tab G0 0 i_law14_few_k0 i_law14_few_b0 st
theorem L_law14_few_0_eq (st : St) : L_law14_few_0 st = againL L_law14_few_0 0 i_law14_few_k0 (app tab G0 0 [] (ex tab G0 0 i_law14_few_b0 st)) := lp_eq tab G0 0 i_law14_few_k0 i_law14_few_b0 st
@[go_sem] theorem L_law14_few_0_in (K : List Fr) (st : St) : app tab G0 0 K (ex tab G0 0 (.loop i_law14_few_k0 i_law14_few_b0) st) = app tab G0 0 K (L_law14_few_0 (clean 0 i_law14_few_k0 st)) := rfl
noncomputable def L_ref04_Light_0 (st : St) : Option (Ex × St) := lp tab G0 1 i_ref04_Light_k0 i_ref04_Light_b0 st
theorem L_ref04_Light_0_eq (st : St) : L_ref04_Light_0 st = againL L_ref04_Light_0 1 i_ref04_Light_k0 (app tab G0 1 [] (ex tab G0 1 i_ref04_Light_b0 st)) := lp_eq tab G0 1 i_ref04_Light_k0 i_ref04_Light_b0 st
@[go_sem] theorem L_ref04_Light_0_in (K : List Fr) (st : St) : app tab G0 1 K (ex tab G0 1 (.loop i_ref04_Light_k0 i_ref04_Light_b0) st) = app tab G0 1 K (L_ref04_Light_0 (clean 1 i_ref04_Light_k0 st)) := rfl
noncomputable def L_slices_IndexFunc_sl_api_Tree_api_Tree_0 (st : St) : Option (Ex × St) := lp tab G0 0 i_slices_IndexFunc_sl_api_Tree_api_Tree_k0 i_slices_IndexFunc_sl_api_Tree_api_Tree_b0 st
theorem L_slices_IndexFunc_sl_api_Tree_api_Tree_0_eq (st : St) : L_slices_IndexFunc_sl_api_Tree_api_Tree_0 st = againL L_slices_IndexFunc_sl_api_Tree_api_Tree_0 0 i_slices_IndexFunc_sl_api_Tree_api_Tree_k0 (app tab G0 0 [] (ex tab G0 0 i_slices_IndexFunc_sl_api_Tree_api_Tree_b0 st)) := lp_eq tab G0 0 i_slices_IndexFunc_sl_api_Tree_api_Tree_k0 i_slices_IndexFunc_sl_api_Tree_api_Tree_b0 st
@[go_sem] theorem L_slices_IndexFunc_sl_api_Tree_api_Tree_0_in (K : List Fr) (st : St) : app tab G0 0 K (ex tab G0 0 (.loop i_slices_IndexFunc_sl_api_Tree_api_Tree_k0 i_slices_IndexFunc_sl_api_Tree_api_Tree_b0) st) = app tab G0 0 K (L_slices_IndexFunc_sl_api_Tree_api_Tree_0 (clean 0 i_slices_IndexFunc_sl_api_Tree_api_Tree_k0 st)) := rfl
noncomputable def L_code_long_0 (st : St) : Option (Ex × St) := lp tab G0 2 i_code_long_k0 i_code_long_b0 st
theorem L_code_long_0_eq (st : St) : L_code_long_0 st = againL L_code_long_0 2 i_code_long_k0 (app tab G0 2 [] (ex tab G0 2 i_code_long_b0 st)) := lp_eq tab G0 2 i_code_long_k0 i_code_long_b0 st
@[go_sem] theorem L_code_long_0_in (K : List Fr) (st : St) : app tab G0 2 K (ex tab G0 2 (.loop i_code_long_k0 i_code_long_b0) st) = app tab G0 2 K (L_code_long_0 (clean 2 i_code_long_k0 st)) := rfl
noncomputable def L_code_write_0 (st : St) : Option (Ex × St) := lp tab G0 4 i_code_write_k0 i_code_write_b0 st
theorem L_code_write_0_eq (st : St) : L_code_write_0 st = againL L_code_write_0 4 i_code_write_k0 (app tab G0 4 [] (ex tab G0 4 i_code_write_b0 st)) := lp_eq tab G0 4 i_code_write_k0 i_code_write_b0 st
@[go_sem] theorem L_code_write_0_in (K : List Fr) (st : St) : app tab G0 4 K (ex tab G0 4 (.loop i_code_write_k0 i_code_write_b0) st) = app tab G0 4 K (L_code_write_0 (clean 4 i_code_write_k0 st)) := rfl
end Go.Proofs.Ytkfaahjcncpmhaa
