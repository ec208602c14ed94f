/- The IR of the seat's functions, printed by a program of this session. -/
import Derived.Test.YtebiajdkgpcidaaDoorIrP0
set_option linter.unusedVariables false
namespace Go.Proofs.YtebiajdkgpcidaaDoor
open Go.Ev

abbrev s_coder_Number_J2 (t4 : AV) (h : Heap) : St := ⟨[u_,u_,u_,u_,t4, u_,u_,u_,u_,u_,u_,u_,u_,u_,u_,u_,u_,u_,u_,u_,u_,u_,u_,u_,u_,u_,u_,u_,u_,u_,u_,u_,u_,u_,u_,u_,u_,u_,u_,u_,u_,u_,u_], h⟩
/-- heartwood/coder.Number -/
def i_coder_Number : Ev.Fn := ⟨1, 43, 1, (.seq (.reg [] [⟨(some 2), .mv (.k (.slice none 0 0)),none,[]⟩]) (.seq (.seq (.reg [] [⟨(some 6), .mv (.t 0),none,[]⟩,⟨(some 7), .bin .plain .leq (.t 6) (.k (.int .u64 247)),none,[]⟩]) (.cond (.t 7) (.seq (.reg [] [⟨(some 8), .mv (.t 0),none,[]⟩,⟨(some 9), .conv .u8 (.t 8),none,[]⟩,⟨(some 10), .lit 0 ty_uint8 1 1 [(.int .u8 0)] [(0, (.t 9))],none,[]⟩,⟨(some 2), .mv (.t 10),none,[]⟩]) (.ret i_coder_Number_r)) .skip)) (.seq (.reg [] [⟨(some 3), .mv (.k (.int .i64 1)),none,[]⟩]) (.seq (.block 0 i_coder_Number_j0 (.loop i_coder_Number_k0 i_coder_Number_b0)) (.seq (.reg [] [⟨(some 22), .mv (.t 3),none,[]⟩,⟨(some 23), .bin .plain .add (.k (.int .i64 247)) (.t 22),none,[]⟩,⟨(some 24), .conv .u8 (.t 23),none,[]⟩,⟨(some 25), .lit 0 ty_uint8 1 1 [(.int .u8 0)] [(0, (.t 24))],none,[]⟩,⟨(some 4), .mv (.t 25),none,[]⟩]) (.seq (.seq (.reg [] [⟨(some 26), .mv (.t 3),none,[]⟩,⟨(some 27), .mv (.k (.int .i64 0)),none,[]⟩]) (.block 2 i_coder_Number_j2 (.loop i_coder_Number_k1 i_coder_Number_b1))) (.seq (.reg [] [⟨(some 42), .mv (.t 4),none,[]⟩,⟨(some 2), .mv (.t 42),none,[]⟩]) (.ret i_coder_Number_r)))))))),
 [.tmp 2], [true], false, []⟩

def i_slices_Concat_sl_byte_byte_r : List Bool := [o_,o_,i_,o_,o_,o_,o_,o_,o_,o_,o_,o_,o_,o_,o_,o_,o_,o_,o_,o_,o_,o_,o_,o_,o_,o_,o_,o_,o_,o_,o_,o_,o_,o_,o_,o_]
def i_slices_Concat_sl_byte_byte_j1 : List Bool := [i_,o_,o_,i_,o_,o_,o_,o_,o_,i_,i_,i_,o_,o_,o_,o_,o_,o_,o_,o_,o_,o_,o_,o_,o_,o_,o_,o_,o_,o_,o_,o_,o_,o_,o_,o_]
def i_slices_Concat_sl_byte_byte_k0 : List Bool := [i_,o_,o_,i_,o_,o_,o_,o_,o_,i_,i_,i_,o_,o_,o_,o_,o_,o_,o_,o_,o_,o_,o_,o_,o_,o_,o_,o_,o_,o_,o_,o_,o_,o_,o_,o_]
def i_slices_Concat_sl_byte_byte_j0 : List Bool := [i_,o_,o_,i_,o_,o_,o_,o_,o_,o_,o_,o_,o_,o_,o_,o_,o_,o_,o_,o_,o_,o_,o_,o_,o_,o_,o_,o_,o_,o_,o_,o_,o_,o_,o_,o_]
def i_slices_Concat_sl_byte_byte_j3 : List Bool := [o_,o_,o_,o_,o_,o_,i_,o_,o_,o_,o_,o_,o_,o_,o_,o_,o_,o_,o_,o_,o_,o_,o_,o_,o_,i_,i_,i_,o_,o_,o_,o_,o_,o_,o_,o_]
def i_slices_Concat_sl_byte_byte_k1 : List Bool := [o_,o_,o_,o_,o_,o_,i_,o_,o_,o_,o_,o_,o_,o_,o_,o_,o_,o_,o_,o_,o_,o_,o_,o_,o_,i_,i_,i_,o_,o_,o_,o_,o_,o_,o_,o_]
def i_slices_Concat_sl_byte_byte_j2 : List Bool := [o_,o_,o_,o_,o_,o_,i_,o_,o_,o_,o_,o_,o_,o_,o_,o_,o_,o_,o_,o_,o_,o_,o_,o_,o_,o_,o_,o_,o_,o_,o_,o_,o_,o_,o_,o_]
abbrev s_slices_Concat_sl_byte_byte_R (t2 : AV) (h : Heap) : St := ⟨[u_,u_,t2, u_,u_,u_,u_,u_,u_,u_,u_,u_,u_,u_,u_,u_,u_,u_,u_,u_,u_,u_,u_,u_,u_,u_,u_,u_,u_,u_,u_,u_,u_,u_,u_,u_], h⟩
abbrev s_slices_Concat_sl_byte_byte_K0 (t0 t3 t9 t10 t11 : AV) (h : Heap) : St := ⟨[t0, u_,u_,t3, u_,u_,u_,u_,u_,t9, t10, t11, u_,u_,u_,u_,u_,u_,u_,u_,u_,u_,u_,u_,u_,u_,u_,u_,u_,u_,u_,u_,u_,u_,u_,u_], h⟩
def i_slices_Concat_sl_byte_byte_b0 : IR := (.seq (.reg [] [⟨(some 12), .bin .plain .lss (.t 11) (.t 10),none,[]⟩]) (.seq (.cond (.t 12) .skip (.exit 0 i_slices_Concat_sl_byte_byte_j0)) (.seq (.block 1 i_slices_Concat_sl_byte_byte_j1 (.seq (.reg [] [⟨(some 13), .ia 1 (.t 9) (.t 11),none,[]⟩,⟨(some 14), .load false 1 (.t 13),none,[]⟩,⟨(some 5), .cn (.t 14),none,[]⟩]) (.seq (.reg [] [⟨(some 15), .mv (.t 3),none,[]⟩,⟨(some 16), .cn (.t 5),none,[]⟩,⟨(some 17), .len false (.t 16),none,[]⟩,⟨(some 18), .bin .plain .add (.t 15) (.t 17),none,[]⟩,⟨(some 3), .mv (.t 18),none,[]⟩]) (.seq (.reg [] [⟨(some 19), .mv (.t 3),none,[]⟩,⟨(some 20), .bin .plain .lss (.t 19) (.k (.int .i64 0)),none,[]⟩]) (.cond (.t 20) (.reg [] [⟨(some 21), .mki ty_string (.k (.string ⟨#[108, 101, 110, 32, 111, 117, 116, 32, 111, 102, 32, 114, 97, 110, 103, 101]⟩)),none,[]⟩,⟨none, .trap,none,[]⟩]) .skip))))) (.reg [] [⟨(some 22), .bin .plain .add (.t 11) (.k (.int .i64 1)),none,[]⟩,⟨(some 11), .mv (.t 22),none,[]⟩]))))

abbrev s_slices_Concat_sl_byte_byte_J0 (t0 t3 : AV) (h : Heap) : St := ⟨[t0, u_,u_,t3, u_,u_,u_,u_,u_,u_,u_,u_,u_,u_,u_,u_,u_,u_,u_,u_,u_,u_,u_,u_,u_,u_,u_,u_,u_,u_,u_,u_,u_,u_,u_,u_], h⟩
abbrev s_slices_Concat_sl_byte_byte_K1 (t6 t25 t26 t27 : AV) (h : Heap) : St := ⟨[u_,u_,u_,u_,u_,u_,t6, u_,u_,u_,u_,u_,u_,u_,u_,u_,u_,u_,u_,u_,u_,u_,u_,u_,u_,t25, t26, t27, u_,u_,u_,u_,u_,u_,u_,u_], h⟩
def i_slices_Concat_sl_byte_byte_b1 : IR := (.seq (.reg [] [⟨(some 28), .bin .plain .lss (.t 27) (.t 26),none,[]⟩]) (.seq (.cond (.t 28) .skip (.exit 2 i_slices_Concat_sl_byte_byte_j2)) (.seq (.block 3 i_slices_Concat_sl_byte_byte_j3 (.seq (.reg [] [⟨(some 29), .ia 1 (.t 25) (.t 27),none,[]⟩,⟨(some 30), .load false 1 (.t 29),none,[]⟩,⟨(some 8), .cn (.t 30),none,[]⟩]) (.reg [] [⟨(some 31), .mv (.t 6),none,[]⟩,⟨(some 32), .cn (.t 8),none,[]⟩,⟨(some 33), .app 1 ty_uint8 1 1 (.t 31) (.t 32),none,[]⟩,⟨(some 6), .mv (.t 33),none,[]⟩]))) (.reg [] [⟨(some 34), .bin .plain .add (.t 27) (.k (.int .i64 1)),none,[]⟩,⟨(some 27), .mv (.t 34),none,[]⟩]))))

abbrev s_slices_Concat_sl_byte_byte_J2 (t6 : AV) (h : Heap) : St := ⟨[u_,u_,u_,u_,u_,u_,t6, u_,u_,u_,u_,u_,u_,u_,u_,u_,u_,u_,u_,u_,u_,u_,u_,u_,u_,u_,u_,u_,u_,u_,u_,u_,u_,u_,u_,u_], h⟩
/-- slices.Concat[[]byte,byte] -/
def i_slices_Concat_sl_byte_byte : Ev.Fn := ⟨1, 36, 2, (.seq (.reg [] [⟨(some 2), .cn (.k (.slice none 0 0)),none,[]⟩]) (.seq (.reg [] [⟨(some 3), .mv (.k (.int .i64 0)),none,[]⟩]) (.seq (.seq (.reg [] [⟨(some 9), .cn (.t 0),none,[]⟩,⟨(some 10), .len false (.t 9),none,[]⟩,⟨(some 11), .mv (.k (.int .i64 0)),none,[]⟩]) (.block 0 i_slices_Concat_sl_byte_byte_j0 (.loop i_slices_Concat_sl_byte_byte_k0 i_slices_Concat_sl_byte_byte_b0))) (.seq (.reg [] [⟨(some 23), .mv (.t 3),none,[]⟩,⟨(some 24), .qcall n_slices_Grow_sl_byte_byte [(.k (.slice none 0 0)), (.t 23)] [0],none,[]⟩,⟨(some 6), .mv (.t 24),none,[]⟩]) (.seq (.seq (.reg [] [⟨(some 25), .cn (.t 0),none,[]⟩,⟨(some 26), .len false (.t 25),none,[]⟩,⟨(some 27), .mv (.k (.int .i64 0)),none,[]⟩]) (.block 2 i_slices_Concat_sl_byte_byte_j2 (.loop i_slices_Concat_sl_byte_byte_k1 i_slices_Concat_sl_byte_byte_b1))) (.seq (.reg [] [⟨(some 35), .cn (.t 6), none, [6]⟩,⟨(some 2), .cn (.t 35), none, [35]⟩]) (.ret i_slices_Concat_sl_byte_byte_r))))))),
 [.tmp 2], [], false, []⟩

def i_slices_Grow_sl_byte_byte_r : List Bool := [o_,o_,o_,o_,i_,o_,o_,o_,o_,o_,o_,o_,o_,o_,o_,o_,o_,o_,o_,o_,o_,o_,o_,o_,o_,o_,o_]
/-- slices.Grow[[]byte,byte] -/
def i_slices_Grow_sl_byte_byte : Ev.Fn := ⟨2, 27, 3, (.seq (.reg [] [⟨(some 4), .mv (.k (.slice none 0 0)),none,[]⟩]) (.seq (.seq (.reg [] [⟨(some 5), .mv (.t 1),none,[]⟩,⟨(some 6), .bin .plain .lss (.t 5) (.k (.int .i64 0)),none,[]⟩]) (.cond (.t 6) (.reg [] [⟨(some 7), .mki ty_string (.k (.string ⟨#[99, 97, 110, 110, 111, 116, 32, 98, 101, 32, 110, 101, 103, 97, 116, 105, 118, 101]⟩)),none,[]⟩,⟨none, .trap,none,[]⟩]) .skip)) (.seq (.seq (.reg [] [⟨(some 8), .mv (.t 1),none,[]⟩,⟨(some 9), .mv (.t 0),none,[]⟩,⟨(some 10), .capn (.t 9),none,[]⟩,⟨(some 11), .cn (.t 0),none,[]⟩,⟨(some 12), .len false (.t 11),none,[]⟩,⟨(some 13), .bin .plain .sub (.t 10) (.t 12),none,[]⟩,⟨(some 14), .bin .plain .sub (.t 8) (.t 13),none,[]⟩,⟨(some 1), .mv (.t 14),none,[]⟩]) (.seq (.reg [] [⟨(some 15), .mv (.t 1),none,[]⟩,⟨(some 16), .bin .plain .gtr (.t 15) (.k (.int .i64 0)),none,[]⟩]) (.cond (.t 16) (.reg [] [⟨(some 17), .mv (.t 0),none,[]⟩,⟨(some 18), .mv (.t 0),none,[]⟩,⟨(some 19), .capn (.t 18),none,[]⟩,⟨(some 20), .trunc 0 (.t 17) (.t 19),none,[]⟩,⟨(some 21), .mv (.t 1),none,[]⟩,⟨(some 22), .appz 1 ty_uint8 1 1 [(.int .u8 0)] (.t 20) (.t 21),none,[]⟩,⟨(some 23), .cn (.t 0), none, [0]⟩,⟨(some 24), .len false (.t 23),none,[]⟩,⟨(some 25), .trunc 2 (.t 22) (.t 24),none,[]⟩,⟨(some 0), .mv (.t 25),none,[]⟩]) .skip))) (.seq (.reg [] [⟨(some 26), .mv (.t 0),none,[]⟩,⟨(some 4), .mv (.t 26),none,[]⟩]) (.ret i_slices_Grow_sl_byte_byte_r))))),
 [.tmp 4], [true], false, [i_,o_]⟩

def i_tree_of_r : List Bool := [o_,o_,o_,o_,o_,o_,i_,i_,o_,o_,o_,o_,o_,o_,o_,o_]
/-- heartwood/tree.of -/
def i_tree_of : Ev.Fn := ⟨3, 16, 0, (.seq (.reg [] [⟨(some 6), .cn (.k (.slice none 0 0)),none,[]⟩,⟨(some 7), .mv (.k .nilIface),none,[]⟩]) (.seq (.seq (.reg [] [⟨(some 8), .mv (.t 2),none,[]⟩,⟨(some 9), .bin (.iface ty_api_Code true) .neq (.t 8) (.k .nilIface),none,[]⟩]) (.cond (.t 9) (.seq (.reg [] [⟨(some 10), .mki ty_api_Code (.k (.int .i64 3)),none,[]⟩,⟨(some 6), .cn (.k (.slice none 0 0)),none,[]⟩,⟨(some 7), .mv (.t 10),none,[]⟩]) (.ret i_tree_of_r)) .skip)) (.seq (.reg [] [⟨(some 11), .mv (.t 0),none,[]⟩,⟨(some 12), .cn (.t 1),none,[]⟩,⟨(some 13), .qcall n_digest_Of [(.t 11), (.t 12)] [],none,[]⟩,⟨(some 14), .ext 0 (.t 13),none,[]⟩,⟨(some 15), .ext 1 (.t 13),none,[]⟩,⟨(some 6), .cn (.t 14),none,[]⟩,⟨(some 7), .mv (.t 15),none,[]⟩]) (.ret i_tree_of_r)))),
 [.tmp 6, .tmp 7], [], false, []⟩

def i_digest_Node_r : List Bool := [o_,o_,o_,o_,o_,o_,o_,o_,i_,i_,o_,o_,o_,o_,o_,o_,o_,o_,o_,o_,o_,o_,o_,o_,o_,o_,o_,o_,o_,o_,o_,o_,o_,o_,o_,o_,o_,o_]
/-- heartwood/digest.Node -/
def i_digest_Node : Ev.Fn := ⟨4, 38, 0, (.seq (.reg [] [⟨(some 8), .cn (.k (.slice none 0 0)),none,[]⟩,⟨(some 9), .mv (.k .nilIface),none,[]⟩]) (.seq (.seq (.reg [] [⟨(some 10), .mv (.t 0),none,[]⟩,⟨(some 11), .qcall n_digest_width [(.t 10)] [],none,[]⟩,⟨(some 12), .un .not (.t 11),none,[]⟩,⟨(some 13), .mv (.t 12),none,[]⟩,⟨(some 14), .cn (.t 1), (some (13, false)), []⟩,⟨(some 15), .len false (.t 14), (some (13, false)), []⟩,⟨(some 16), .mv (.t 0), (some (13, false)), []⟩,⟨(some 17), .bin .plain .neq (.t 15) (.t 16), (some (13, false)), []⟩,⟨(some 18), .pick (.t 13) (.k (.bool true)) (.t 17),none,[]⟩,⟨(some 19), .mv (.t 18),none,[]⟩,⟨(some 20), .cn (.t 2), (some (19, false)), []⟩,⟨(some 21), .len false (.t 20), (some (19, false)), []⟩,⟨(some 22), .mv (.t 0), (some (19, false)), []⟩,⟨(some 23), .bin .plain .neq (.t 21) (.t 22), (some (19, false)), []⟩,⟨(some 24), .pick (.t 19) (.k (.bool true)) (.t 23),none,[]⟩,⟨(some 25), .mv (.t 24),none,[]⟩,⟨(some 26), .cn (.t 3), (some (25, false)), []⟩,⟨(some 27), .len false (.t 26), (some (25, false)), []⟩,⟨(some 28), .mv (.t 0), (some (25, false)), []⟩,⟨(some 29), .bin .plain .neq (.t 27) (.t 28), (some (25, false)), []⟩,⟨(some 30), .pick (.t 25) (.k (.bool true)) (.t 29),none,[]⟩]) (.cond (.t 30) (.seq (.reg [] [⟨(some 31), .mki ty_api_Code (.k (.int .i64 1)),none,[]⟩,⟨(some 8), .cn (.k (.slice none 0 0)),none,[]⟩,⟨(some 9), .mv (.t 31),none,[]⟩]) (.ret i_digest_Node_r)) .skip)) (.seq (.reg [] [⟨(some 32), .litd 1 1 [(.int .u8 0)] [(0, (.k (.int .u8 2)))],none,[]⟩,⟨(some 33), .cn (.t 1),none,[]⟩,⟨(some 34), .cn (.t 2),none,[]⟩,⟨(some 35), .cn (.t 3),none,[]⟩,⟨(some 36), .litd 1 4 [(.slice none 0 0)] [(0, (.t 32)), (1, (.t 33)), (2, (.t 34)), (3, (.t 35))],none,[]⟩,⟨(some 37), .qcall n_slices_Concat_sl_byte_byte [(.t 36)] [],none,[]⟩,⟨(some 8), .cn (.t 37),none,[]⟩,⟨(some 9), .mv (.k .nilIface),none,[]⟩]) (.ret i_digest_Node_r)))),
 [.tmp 8, .tmp 9], [], false, []⟩

def i_tree_Full_r : List Bool := [o_,o_,i_,o_,o_,o_,o_,o_,o_,o_]
/-- heartwood/tree.Full -/
def i_tree_Full : Ev.Fn := ⟨1, 10, 1, (.seq (.reg [] [⟨(some 1), .box 0 5 (.t 0),none,[]⟩,⟨(some 2), .mv (.k (.bool false)),none,[]⟩]) (.seq (.reg [] [⟨(some 3), .load true 5 (.t 1),none,[]⟩,⟨(some 4), .qcall n_tree_Check [(.t 3)] [],none,[]⟩,⟨(some 5), .bin (.iface ty_api_Code true) .eql (.t 4) (.k .nilIface),none,[]⟩,⟨(some 6), .mv (.t 5),none,[]⟩,⟨(some 7), .load true 5 (.t 1), (some (6, true)), []⟩,⟨(some 8), .qcall n_tree_full [(.t 7)] [], (some (6, true)), []⟩,⟨(some 9), .pick (.t 6) (.t 8) (.k (.bool false)),none,[]⟩,⟨(some 2), .mv (.t 9),none,[]⟩]) (.ret i_tree_Full_r))),
 [.tmp 2], [], false, []⟩

def i_tree_full_r : List Bool := [o_,o_,i_,o_,o_,o_,o_,o_,o_,o_,o_,o_,o_,o_,o_]
/-- heartwood/tree.full -/
def i_tree_full : Ev.Fn := ⟨1, 15, 1, (.seq (.reg [] [⟨(some 1), .box 0 5 (.t 0),none,[]⟩,⟨(some 2), .mv (.k (.bool false)),none,[]⟩]) (.seq (.seq (.reg [] [⟨(some 3), .fa 0 (.t 1),none,[]⟩,⟨(some 4), .load false 1 (.t 3),none,[]⟩,⟨(some 5), .bin .plain .eql (.t 4) (.k (.int .i64 2)),none,[]⟩,⟨(some 6), .mv (.t 5),none,[]⟩,⟨(some 7), .fa 0 (.t 1), (some (6, false)), []⟩,⟨(some 8), .load false 1 (.t 7), (some (6, false)), []⟩,⟨(some 9), .bin .plain .eql (.t 8) (.k (.int .i64 3)), (some (6, false)), []⟩,⟨(some 10), .pick (.t 6) (.k (.bool true)) (.t 9),none,[]⟩]) (.cond (.t 10) (.seq (.reg [] [⟨(some 2), .mv (.k (.bool false)),none,[]⟩]) (.ret i_tree_full_r)) .skip)) (.seq (.reg [] [⟨(some 11), .fa 4 (.t 1),none,[]⟩,⟨(some 12), .load false 1 (.t 11),none,[]⟩,⟨(some 13), .call n_slices_ContainsFunc_sl_api_Tree_api_Tree [(.t 12), (.f n_tree_full_1)] [],none,[]⟩,⟨(some 14), .un .not (.t 13),none,[]⟩,⟨(some 2), .mv (.t 14),none,[]⟩]) (.ret i_tree_full_r)))),
 [.tmp 2], [], false, []⟩

def i_tree_full_1_r : List Bool := [o_,o_,i_,o_,o_,o_]
/-- heartwood/tree.full$1 -/
def i_tree_full_1 : Ev.Fn := ⟨1, 6, 1, (.seq (.reg [] [⟨(some 1), .box 0 5 (.t 0),none,[]⟩,⟨(some 2), .mv (.k (.bool false)),none,[]⟩]) (.seq (.reg [] [⟨(some 3), .load true 5 (.t 1),none,[]⟩,⟨(some 4), .qcall n_tree_full [(.t 3)] [],none,[]⟩,⟨(some 5), .un .not (.t 4),none,[]⟩,⟨(some 2), .mv (.t 5),none,[]⟩]) (.ret i_tree_full_1_r))),
 [.tmp 2], [], false, []⟩

def i_chunk_Cut_1_r : List Bool := [o_,o_,o_,o_,o_,o_,o_,i_,o_,o_,o_,o_,o_,o_,o_,o_,o_,o_,o_,o_,o_,o_,o_,o_,o_,o_,o_,o_,o_,o_,o_,o_,o_,o_,o_,o_,o_,o_,o_,o_,o_,o_,o_,o_,o_,o_,o_,o_,o_,o_,o_,o_,o_,o_,o_,o_,o_,o_,o_,o_,o_,o_]
/-- heartwood/chunk.Cut$1 -/
def i_chunk_Cut_1 : Ev.Fn := ⟨5, 62, 7, (.seq (.reg [] [⟨(some 5), .box 0 5 (.t 0),none,[]⟩,⟨(some 7), .new 1 [(.int .i64 0), (.slice none 0 0), (.slice none 0 0), (.slice none 0 0), (.slice none 0 0)],none,[]⟩]) (.seq (.seq (.reg [] [⟨(some 12), .fa 4 (.t 5),none,[]⟩,⟨(some 13), .load false 1 (.t 12),none,[]⟩,⟨(some 14), .len false (.t 13),none,[]⟩,⟨(some 15), .bin .plain .eql (.t 14) (.k (.int .i64 0)),none,[]⟩]) (.cond (.t 15) (.seq (.reg [] [⟨(some 16), .load true 5 (.t 5),none,[]⟩,⟨none, .store 5 (.t 7) (.t 16),none,[]⟩]) (.ret i_chunk_Cut_1_r)) .skip)) (.seq (.seq (.reg [] [⟨(some 17), .mv (.t 1),none,[]⟩,⟨(some 18), .bin .plain .eql (.t 17) (.k (.int .i64 0)),none,[]⟩]) (.cond (.t 18) (.seq (.reg [] [⟨(some 20), .load false 1 (.t 2),none,[]⟩,⟨(some 21), .load true 5 (.t 5),none,[]⟩,⟨(some 22), .qcall n_tree_Digest [(.t 20), (.t 21)] [], none, [21]⟩,⟨(some 19), .mv (.t 22),none,[]⟩,⟨(some 23), .ext 0 (.t 19),none,[]⟩,⟨(some 24), .ext 1 (.t 19),none,[]⟩,⟨(some 8), .cn (.t 23),none,[]⟩,⟨(some 9), .mv (.t 24),none,[]⟩]) (.seq (.seq (.reg [] [⟨(some 25), .mv (.t 9),none,[]⟩,⟨(some 26), .bin (.iface ty_api_Code true) .neq (.t 25) (.k .nilIface),none,[]⟩]) (.cond (.t 26) (.seq (.reg [] [⟨(some 27), .build [(.int .i64 0), (.slice none 0 0), (.slice none 0 0), (.slice none 0 0), (.slice none 0 0)] [],none,[]⟩,⟨none, .store 5 (.t 7) (.t 27),none,[]⟩]) (.ret i_chunk_Cut_1_r)) .skip)) (.seq (.reg [(5, 7), (6, 7)] [⟨(some 28), .load false 1 (.t 3),none,[]⟩,⟨(some 29), .load true 5 (.t 5),none,[]⟩,⟨(some 30), .len false (.t 28),none,[]⟩,⟨(some 31), .litd 5 1 [(.int .i64 0), (.slice none 0 0), (.slice none 0 0), (.slice none 0 0), (.slice none 0 0)] [(0, (.k (.agg #[(.int .i64 0), (.slice none 0 0), (.slice none 0 0), (.slice none 0 0), (.slice none 0 0)])))],none,[]⟩,⟨(some 32), .app 2 ty_api_Tree 5 104 (.t 28) (.t 31),none,[]⟩,⟨(some 33), .ia 5 (.t 32) (.t 30),none,[]⟩,⟨none, .store 5 (.t 33) (.t 29), none, [29]⟩,⟨none, .store 1 (.t 3) (.t 32),none,[]⟩]) (.seq (.reg [] [⟨(some 34), .cn (.t 8),none,[]⟩,⟨(some 35), .build [(.int .i64 0), (.slice none 0 0), (.slice none 0 0), (.slice none 0 0), (.slice none 0 0)] [(0, 1, (.k (.int .i64 3))), (3, 1, (.t 34))],none,[]⟩,⟨none, .store 5 (.t 7) (.t 35),none,[]⟩]) (.ret i_chunk_Cut_1_r))))) .skip)) (.seq (.reg [(0, 8), (2, 8), (3, 8), (4, 8), (7, 8)] [⟨(some 36), .load false 1 (.t 4),none,[]⟩,⟨(some 37), .fa 4 (.t 5),none,[]⟩,⟨(some 38), .load false 1 (.t 37),none,[]⟩,⟨(some 39), .ia 5 (.t 38) (.k (.int .i64 0)),none,[]⟩,⟨(some 40), .load true 5 (.t 39),none,[]⟩,⟨(some 41), .mv (.t 1),none,[]⟩,⟨(some 42), .bin .plain .sub (.t 41) (.k (.int .i64 1)),none,[]⟩,⟨(some 43), .callv (.t 36) [(.t 40), (.t 42)] [3], none, [40]⟩,⟨(some 10), .new 4 [(.int .i64 0), (.slice none 0 0), (.slice none 0 0), (.slice none 0 0), (.slice none 0 0)],none,[]⟩,⟨none, .store 5 (.t 10) (.t 43),none,[]⟩]) (.seq (.reg [(0, 8), (2, 8), (3, 8), (4, 8), (7, 8)] [⟨(some 44), .load false 1 (.t 4),none,[]⟩,⟨(some 45), .fa 4 (.t 5),none,[]⟩,⟨(some 46), .load false 1 (.t 45),none,[]⟩,⟨(some 47), .ia 5 (.t 46) (.k (.int .i64 1)),none,[]⟩,⟨(some 48), .load true 5 (.t 47),none,[]⟩,⟨(some 49), .mv (.t 1),none,[]⟩,⟨(some 50), .bin .plain .sub (.t 49) (.k (.int .i64 1)),none,[]⟩,⟨(some 51), .callv (.t 44) [(.t 48), (.t 50)] [5], none, [48]⟩,⟨(some 11), .new 6 [(.int .i64 0), (.slice none 0 0), (.slice none 0 0), (.slice none 0 0), (.slice none 0 0)],none,[]⟩,⟨none, .store 5 (.t 11) (.t 51),none,[]⟩]) (.seq (.reg [] [⟨(some 52), .fa 0 (.t 5),none,[]⟩,⟨(some 53), .load false 1 (.t 52),none,[]⟩,⟨(some 54), .fa 1 (.t 5),none,[]⟩,⟨(some 55), .load false 1 (.t 54),none,[]⟩,⟨(some 56), .fa 2 (.t 5),none,[]⟩,⟨(some 57), .load false 1 (.t 56),none,[]⟩,⟨(some 58), .load true 5 (.t 10),none,[]⟩,⟨(some 59), .load true 5 (.t 11),none,[]⟩,⟨(some 60), .litd 5 2 [(.int .i64 0), (.slice none 0 0), (.slice none 0 0), (.slice none 0 0), (.slice none 0 0)] [(0, (.t 58)), (1, (.t 59))], none, [58, 59]⟩,⟨(some 61), .build [(.int .i64 0), (.slice none 0 0), (.slice none 0 0), (.slice none 0 0), (.slice none 0 0)] [(0, 1, (.t 53)), (1, 1, (.t 55)), (2, 1, (.t 57)), (4, 1, (.t 60))], none, [55, 57]⟩,⟨none, .store 5 (.t 7) (.t 61),none,[]⟩]) (.ret i_chunk_Cut_1_r))))))),
 [.cell 7 true 5], [], false, []⟩

def i_chunk_Join_r : List Bool := [o_,o_,o_,o_,o_,o_,i_,i_,o_,o_,o_,o_,o_,o_,o_,o_,o_,o_,o_,o_,o_,o_,o_,o_,o_,o_,o_,o_,o_,o_,o_,o_,o_,o_,o_,o_,o_,o_,o_,o_,o_,o_,o_,o_,o_,o_,o_,o_,o_,o_,o_,o_,o_,o_,o_,o_,o_,o_,o_,o_,o_,o_,o_,o_,o_,o_,o_,o_,o_,o_,o_,o_,o_,o_,o_,o_,o_]
def i_chunk_Join_j2 : List Bool := [i_,o_,o_,o_,i_,i_,i_,o_,o_,o_,o_,o_,o_,o_,o_,o_,o_,o_,o_,o_,o_,o_,o_,o_,o_,o_,o_,o_,o_,o_,o_,o_,o_,o_,o_,o_,o_,o_,i_,i_,i_,o_,o_,o_,o_,o_,o_,o_,o_,o_,o_,o_,o_,o_,o_,o_,o_,o_,o_,o_,o_,o_,o_,o_,o_,o_,o_,o_,o_,o_,o_,o_,o_,o_,o_,o_,o_]
def i_chunk_Join_j1 : List Bool := [i_,o_,o_,o_,i_,i_,i_,o_,o_,o_,o_,o_,o_,o_,o_,o_,o_,o_,o_,o_,o_,o_,o_,o_,o_,o_,o_,o_,o_,o_,o_,o_,o_,o_,o_,o_,o_,o_,i_,i_,i_,o_,o_,o_,o_,o_,o_,o_,o_,o_,o_,o_,o_,o_,o_,o_,o_,o_,o_,o_,o_,o_,o_,o_,o_,o_,o_,o_,o_,o_,o_,o_,o_,o_,o_,o_,o_]
def i_chunk_Join_k0 : List Bool := [i_,o_,o_,o_,i_,i_,i_,o_,o_,o_,o_,o_,o_,o_,o_,o_,o_,o_,o_,o_,o_,o_,o_,o_,o_,o_,o_,o_,o_,o_,o_,o_,o_,o_,o_,o_,o_,o_,i_,i_,i_,o_,o_,o_,o_,o_,o_,o_,o_,o_,o_,o_,o_,o_,o_,o_,o_,o_,o_,o_,o_,o_,o_,o_,o_,o_,o_,o_,o_,o_,o_,o_,o_,o_,o_,o_,o_]
def i_chunk_Join_j0 : List Bool := [o_,o_,o_,o_,i_,i_,i_,o_,o_,o_,o_,o_,o_,o_,o_,o_,o_,o_,o_,o_,o_,o_,o_,o_,o_,o_,o_,o_,o_,o_,o_,o_,o_,o_,o_,o_,o_,o_,o_,o_,o_,o_,o_,o_,o_,o_,o_,o_,o_,o_,o_,o_,o_,o_,o_,o_,o_,o_,o_,o_,o_,o_,o_,o_,o_,o_,o_,o_,o_,o_,o_,o_,o_,o_,o_,o_,o_]
abbrev s_chunk_Join_R (t6 t7 : AV) (h : Heap) : St := ⟨[u_,u_,u_,u_,u_,u_,t6, t7, u_,u_,u_,u_,u_,u_,u_,u_,u_,u_,u_,u_,u_,u_,u_,u_,u_,u_,u_,u_,u_,u_,u_,u_,u_,u_,u_,u_,u_,u_,u_,u_,u_,u_,u_,u_,u_,u_,u_,u_,u_,u_,u_,u_,u_,u_,u_,u_,u_,u_,u_,u_,u_,u_,u_,u_,u_,u_,u_,u_,u_,u_,u_,u_,u_,u_,u_,u_,u_], h⟩
abbrev s_chunk_Join_K0 (t0 t4 t5 t6 t38 t39 t40 : AV) (h : Heap) : St := ⟨[t0, u_,u_,u_,t4, t5, t6, u_,u_,u_,u_,u_,u_,u_,u_,u_,u_,u_,u_,u_,u_,u_,u_,u_,u_,u_,u_,u_,u_,u_,u_,u_,u_,u_,u_,u_,u_,u_,t38, t39, t40, u_,u_,u_,u_,u_,u_,u_,u_,u_,u_,u_,u_,u_,u_,u_,u_,u_,u_,u_,u_,u_,u_,u_,u_,u_,u_,u_,u_,u_,u_,u_,u_,u_,u_,u_,u_], h⟩
def i_chunk_Join_b0 : IR := (.seq (.reg [] [⟨(some 41), .bin .plain .lss (.t 40) (.t 39),none,[]⟩]) (.seq (.cond (.t 41) .skip (.exit 0 i_chunk_Join_j0)) (.seq (.block 1 i_chunk_Join_j1 (.seq (.reg [] [⟨(some 42), .mv (.t 40),none,[]⟩,⟨(some 43), .ia 5 (.t 38) (.t 40),none,[]⟩,⟨(some 44), .load true 5 (.t 43),none,[]⟩,⟨(some 10), .new 3 [(.int .i64 0), (.slice none 0 0), (.slice none 0 0), (.slice none 0 0), (.slice none 0 0)],none,[]⟩,⟨(some 9), .mv (.t 42),none,[]⟩,⟨none, .store 5 (.t 10) (.t 44),none,[]⟩]) (.seq (.reg [] [⟨(some 45), .mv (.t 0),none,[]⟩,⟨(some 46), .load true 5 (.t 4),none,[]⟩,⟨(some 47), .mv (.t 9),none,[]⟩,⟨(some 48), .load true 5 (.t 10),none,[]⟩,⟨(some 49), .qcall n_chunk_Fits [(.t 45), (.t 46), (.t 47), (.t 48)] [],none,[]⟩,⟨(some 11), .mv (.t 49),none,[]⟩]) (.block 2 i_chunk_Join_j2 (.seq (.reg [] [⟨(some 51), .mv (.t 11),none,[]⟩,⟨(some 52), .mki ty_api_Code (.k (.int .i64 6)),none,[]⟩,⟨(some 53), .bin (.iface ty_api_Code false) .eql (.t 51) (.t 52),none,[]⟩,⟨(some 50), .mv (.t 53),none,[]⟩]) (.cond (.t 50) (.seq (.reg [] [⟨(some 54), .build [(.int .i64 0), (.slice none 0 0), (.slice none 0 0), (.slice none 0 0), (.slice none 0 0)] [],none,[]⟩,⟨(some 55), .mv (.t 9),none,[]⟩,⟨(some 56), .mv (.t 11),none,[]⟩,⟨(some 57), .build [(.int .i64 0), .nilIface] [(0, 1, (.t 55)), (1, 1, (.t 56))],none,[]⟩,⟨(some 58), .box 4 2 (.t 57),none,[]⟩,⟨(some 59), .mki ty_api_Spot (.t 58),none,[]⟩,⟨none, .store 5 (.t 6) (.t 54),none,[]⟩,⟨(some 7), .mv (.t 59),none,[]⟩]) (.ret i_chunk_Join_r)) (.seq (.reg [] [⟨(some 61), .mv (.t 11),none,[]⟩,⟨(some 62), .bin (.iface ty_api_Code true) .neq (.t 61) (.k .nilIface),none,[]⟩,⟨(some 60), .mv (.t 62),none,[]⟩]) (.cond (.t 60) (.seq (.reg [] [⟨(some 63), .build [(.int .i64 0), (.slice none 0 0), (.slice none 0 0), (.slice none 0 0), (.slice none 0 0)] [],none,[]⟩,⟨(some 64), .mv (.t 11),none,[]⟩,⟨none, .store 5 (.t 6) (.t 63),none,[]⟩,⟨(some 7), .mv (.t 64),none,[]⟩]) (.ret i_chunk_Join_r)) .skip)))))))) (.reg [] [⟨(some 65), .bin .plain .add (.t 40) (.k (.int .i64 1)),none,[]⟩,⟨(some 40), .mv (.t 65),none,[]⟩]))))

abbrev s_chunk_Join_J0 (t4 t5 t6 : AV) (h : Heap) : St := ⟨[u_,u_,u_,u_,t4, t5, t6, u_,u_,u_,u_,u_,u_,u_,u_,u_,u_,u_,u_,u_,u_,u_,u_,u_,u_,u_,u_,u_,u_,u_,u_,u_,u_,u_,u_,u_,u_,u_,u_,u_,u_,u_,u_,u_,u_,u_,u_,u_,u_,u_,u_,u_,u_,u_,u_,u_,u_,u_,u_,u_,u_,u_,u_,u_,u_,u_,u_,u_,u_,u_,u_,u_,u_,u_,u_,u_,u_], h⟩
/-- heartwood/chunk.Join -/
def i_chunk_Join : Ev.Fn := ⟨3, 77, 7, (.seq (.reg [] [⟨(some 4), .box 0 5 (.t 1),none,[]⟩,⟨(some 5), .box 1 1 (.t 2),none,[]⟩,⟨(some 6), .new 2 [(.int .i64 0), (.slice none 0 0), (.slice none 0 0), (.slice none 0 0), (.slice none 0 0)],none,[]⟩,⟨(some 7), .mv (.k .nilIface),none,[]⟩]) (.seq (.seq (.reg [] [⟨(some 15), .mv (.t 0),none,[]⟩,⟨(some 16), .qcall n_chunk_width [(.t 15)] [],none,[]⟩,⟨(some 17), .un .not (.t 16),none,[]⟩]) (.cond (.t 17) (.seq (.reg [] [⟨(some 18), .build [(.int .i64 0), (.slice none 0 0), (.slice none 0 0), (.slice none 0 0), (.slice none 0 0)] [],none,[]⟩,⟨(some 19), .mki ty_api_Code (.k (.int .i64 1)),none,[]⟩,⟨none, .store 5 (.t 6) (.t 18),none,[]⟩,⟨(some 7), .mv (.t 19),none,[]⟩]) (.ret i_chunk_Join_r)) .skip)) (.seq (.seq (.reg [] [⟨(some 20), .load true 5 (.t 4),none,[]⟩,⟨(some 21), .qcall n_tree_Check [(.t 20)] [],none,[]⟩,⟨(some 8), .mv (.t 21),none,[]⟩]) (.seq (.reg [] [⟨(some 22), .mv (.t 8),none,[]⟩,⟨(some 23), .bin (.iface ty_api_Code true) .neq (.t 22) (.k .nilIface),none,[]⟩]) (.cond (.t 23) (.seq (.reg [] [⟨(some 24), .build [(.int .i64 0), (.slice none 0 0), (.slice none 0 0), (.slice none 0 0), (.slice none 0 0)] [],none,[]⟩,⟨(some 25), .mv (.t 8),none,[]⟩,⟨none, .store 5 (.t 6) (.t 24),none,[]⟩,⟨(some 7), .mv (.t 25),none,[]⟩]) (.ret i_chunk_Join_r)) .skip))) (.seq (.seq (.reg [] [⟨(some 26), .load true 5 (.t 4),none,[]⟩,⟨(some 27), .qcall n_chunk_cuts [(.t 26)] [],none,[]⟩,⟨(some 28), .len false (.t 27),none,[]⟩,⟨(some 29), .load false 1 (.t 5),none,[]⟩,⟨(some 30), .len false (.t 29),none,[]⟩,⟨(some 31), .bin .plain .neq (.t 28) (.t 30),none,[]⟩,⟨(some 32), .mv (.t 31),none,[]⟩,⟨(some 33), .load true 5 (.t 4), (some (32, false)), []⟩,⟨(some 34), .qcall n_chunk_dark [(.t 33)] [], (some (32, false)), []⟩,⟨(some 35), .pick (.t 32) (.k (.bool true)) (.t 34),none,[]⟩]) (.cond (.t 35) (.seq (.reg [] [⟨(some 36), .build [(.int .i64 0), (.slice none 0 0), (.slice none 0 0), (.slice none 0 0), (.slice none 0 0)] [],none,[]⟩,⟨(some 37), .mki ty_api_Code (.k (.int .i64 3)),none,[]⟩,⟨none, .store 5 (.t 6) (.t 36),none,[]⟩,⟨(some 7), .mv (.t 37),none,[]⟩]) (.ret i_chunk_Join_r)) .skip)) (.seq (.seq (.reg [] [⟨(some 38), .load false 1 (.t 5),none,[]⟩,⟨(some 39), .len false (.t 38),none,[]⟩,⟨(some 40), .mv (.k (.int .i64 0)),none,[]⟩]) (.block 0 i_chunk_Join_j0 (.loop i_chunk_Join_k0 i_chunk_Join_b0))) (.seq (.reg [] [⟨(some 12), .new 5 [.nilFunc],none,[]⟩]) (.seq (.reg [] [⟨(some 66), .mkf n_chunk_Join_1 [(.t 5), (.t 12)],none,[]⟩,⟨none, .store 1 (.t 12) (.t 66),none,[]⟩]) (.seq (.reg [] [⟨(some 67), .load false 1 (.t 12),none,[]⟩,⟨(some 68), .load true 5 (.t 4),none,[]⟩,⟨(some 69), .callv (.t 67) [(.t 68)] [],none,[]⟩,⟨(some 13), .new 6 [(.int .i64 0), (.slice none 0 0), (.slice none 0 0), (.slice none 0 0), (.slice none 0 0)],none,[]⟩,⟨none, .store 5 (.t 13) (.t 69),none,[]⟩]) (.seq (.seq (.reg [] [⟨(some 70), .load true 5 (.t 13),none,[]⟩,⟨(some 71), .qcall n_tree_Check [(.t 70)] [],none,[]⟩,⟨(some 14), .mv (.t 71),none,[]⟩]) (.seq (.reg [] [⟨(some 72), .mv (.t 14),none,[]⟩,⟨(some 73), .bin (.iface ty_api_Code true) .neq (.t 72) (.k .nilIface),none,[]⟩]) (.cond (.t 73) (.seq (.reg [] [⟨(some 74), .build [(.int .i64 0), (.slice none 0 0), (.slice none 0 0), (.slice none 0 0), (.slice none 0 0)] [],none,[]⟩,⟨(some 75), .mv (.t 14),none,[]⟩,⟨none, .store 5 (.t 6) (.t 74),none,[]⟩,⟨(some 7), .mv (.t 75),none,[]⟩]) (.ret i_chunk_Join_r)) .skip))) (.seq (.reg [] [⟨(some 76), .load true 5 (.t 13),none,[]⟩,⟨none, .store 5 (.t 6) (.t 76),none,[]⟩,⟨(some 7), .mv (.k .nilIface),none,[]⟩]) (.ret i_chunk_Join_r))))))))))),
 [.cell 6 true 5, .tmp 7], [], false, []⟩

def i_chunk_cuts_r : List Bool := [o_,o_,i_,o_,o_,o_,o_,o_,o_,o_,o_,o_,o_,o_,o_,o_,o_,o_,o_,o_,o_,o_,o_,o_]
def i_chunk_cuts_j1 : List Bool := [o_,o_,o_,i_,o_,o_,o_,o_,o_,o_,o_,o_,i_,i_,i_,o_,o_,o_,o_,o_,o_,o_,o_,o_]
def i_chunk_cuts_k0 : List Bool := [o_,o_,o_,i_,o_,o_,o_,o_,o_,o_,o_,o_,i_,i_,i_,o_,o_,o_,o_,o_,o_,o_,o_,o_]
def i_chunk_cuts_j0 : List Bool := [o_,o_,o_,i_,o_,o_,o_,o_,o_,o_,o_,o_,o_,o_,o_,o_,o_,o_,o_,o_,o_,o_,o_,o_]
abbrev s_chunk_cuts_R (t2 : AV) (h : Heap) : St := ⟨[u_,u_,t2, u_,u_,u_,u_,u_,u_,u_,u_,u_,u_,u_,u_,u_,u_,u_,u_,u_,u_,u_,u_,u_], h⟩
abbrev s_chunk_cuts_K0 (t3 t12 t13 t14 : AV) (h : Heap) : St := ⟨[u_,u_,u_,t3, u_,u_,u_,u_,u_,u_,u_,u_,t12, t13, t14, u_,u_,u_,u_,u_,u_,u_,u_,u_], h⟩
def i_chunk_cuts_b0 : IR := (.seq (.reg [] [⟨(some 15), .bin .plain .lss (.t 14) (.t 13),none,[]⟩]) (.seq (.cond (.t 15) .skip (.exit 0 i_chunk_cuts_j0)) (.seq (.block 1 i_chunk_cuts_j1 (.seq (.reg [] [⟨(some 16), .ia 5 (.t 12) (.t 14),none,[]⟩,⟨(some 17), .load true 5 (.t 16),none,[]⟩,⟨(some 5), .new 1 [(.int .i64 0), (.slice none 0 0), (.slice none 0 0), (.slice none 0 0), (.slice none 0 0)],none,[]⟩,⟨none, .store 5 (.t 5) (.t 17),none,[]⟩]) (.reg [] [⟨(some 18), .mv (.t 3),none,[]⟩,⟨(some 19), .load true 5 (.t 5),none,[]⟩,⟨(some 20), .qcall n_chunk_cuts [(.t 19)] [],none,[]⟩,⟨(some 21), .app 2 ty_api_Tree 5 104 (.t 18) (.t 20),none,[]⟩,⟨(some 3), .mv (.t 21),none,[]⟩]))) (.reg [] [⟨(some 22), .bin .plain .add (.t 14) (.k (.int .i64 1)),none,[]⟩,⟨(some 14), .mv (.t 22),none,[]⟩]))))

abbrev s_chunk_cuts_J0 (t3 : AV) (h : Heap) : St := ⟨[u_,u_,u_,t3, u_,u_,u_,u_,u_,u_,u_,u_,u_,u_,u_,u_,u_,u_,u_,u_,u_,u_,u_,u_], h⟩
/-- heartwood/chunk.cuts -/
def i_chunk_cuts : Ev.Fn := ⟨1, 24, 3, (.seq (.reg [] [⟨(some 1), .box 0 5 (.t 0),none,[]⟩,⟨(some 2), .cn (.k (.slice none 0 0)),none,[]⟩]) (.seq (.seq (.reg [] [⟨(some 6), .fa 0 (.t 1),none,[]⟩,⟨(some 7), .load false 1 (.t 6),none,[]⟩,⟨(some 8), .bin .plain .eql (.t 7) (.k (.int .i64 3)),none,[]⟩]) (.cond (.t 8) (.seq (.reg [] [⟨(some 9), .load true 5 (.t 1),none,[]⟩,⟨(some 10), .litd 5 1 [(.int .i64 0), (.slice none 0 0), (.slice none 0 0), (.slice none 0 0), (.slice none 0 0)] [(0, (.t 9))],none,[]⟩,⟨(some 2), .cn (.t 10),none,[]⟩]) (.ret i_chunk_cuts_r)) .skip)) (.seq (.reg [] [⟨(some 3), .mv (.k (.slice none 0 0)),none,[]⟩]) (.seq (.seq (.reg [] [⟨(some 11), .fa 4 (.t 1),none,[]⟩,⟨(some 12), .load false 1 (.t 11),none,[]⟩,⟨(some 13), .len false (.t 12),none,[]⟩,⟨(some 14), .mv (.k (.int .i64 0)),none,[]⟩]) (.block 0 i_chunk_cuts_j0 (.loop i_chunk_cuts_k0 i_chunk_cuts_b0))) (.seq (.reg [] [⟨(some 23), .cn (.t 3), none, [3]⟩,⟨(some 2), .cn (.t 23), none, [23]⟩]) (.ret i_chunk_cuts_r)))))),
 [.tmp 2], [], false, []⟩

def i_chunk_dark_r : List Bool := [o_,o_,i_,o_,o_,o_,o_,o_,o_,o_,o_]
/-- heartwood/chunk.dark -/
def i_chunk_dark : Ev.Fn := ⟨1, 11, 1, (.seq (.reg [] [⟨(some 1), .box 0 5 (.t 0),none,[]⟩,⟨(some 2), .mv (.k (.bool false)),none,[]⟩]) (.seq (.reg [] [⟨(some 3), .fa 0 (.t 1),none,[]⟩,⟨(some 4), .load false 1 (.t 3),none,[]⟩,⟨(some 5), .bin .plain .eql (.t 4) (.k (.int .i64 2)),none,[]⟩,⟨(some 6), .mv (.t 5),none,[]⟩,⟨(some 7), .fa 4 (.t 1), (some (6, false)), []⟩,⟨(some 8), .load false 1 (.t 7), (some (6, false)), []⟩,⟨(some 9), .call n_slices_ContainsFunc_sl_api_Tree_api_Tree [(.t 8), (.f n_chunk_dark)] [], (some (6, false)), []⟩,⟨(some 10), .pick (.t 6) (.k (.bool true)) (.t 9),none,[]⟩,⟨(some 2), .mv (.t 10),none,[]⟩]) (.ret i_chunk_dark_r))),
 [.tmp 2], [], false, []⟩

def i_chunk_Fits_r : List Bool := [o_,o_,o_,o_,o_,o_,o_,o_,i_,o_,o_,o_,o_,o_,o_,o_,o_,o_,o_,o_,o_,o_,o_,o_,o_,o_,o_,o_,o_,o_,o_,o_,o_,o_,o_,o_,o_,o_,o_,o_,o_,o_,o_,o_,o_,o_,o_,o_,o_,o_,o_,o_,o_,o_,o_,o_,o_,o_,o_,o_,o_,o_,o_,o_,o_]
def i_chunk_Fits_j0 : List Bool := [o_,o_,o_,o_,o_,o_,o_,o_,o_,o_,o_,o_,o_,o_,o_,o_,o_,o_,o_,o_,o_,o_,o_,o_,o_,o_,o_,o_,o_,o_,o_,o_,o_,o_,o_,o_,o_,o_,o_,o_,o_,o_,o_,o_,o_,o_,o_,o_,o_,o_,o_,o_,o_,o_,o_,o_,o_,o_,o_,o_,o_,o_,o_,o_,o_]
/-- heartwood/chunk.Fits -/
def i_chunk_Fits : Ev.Fn := ⟨4, 65, 2, (.seq (.reg [] [⟨(some 5), .box 0 5 (.t 1),none,[]⟩,⟨(some 7), .box 1 5 (.t 3),none,[]⟩,⟨(some 8), .mv (.k .nilIface),none,[]⟩]) (.seq (.seq (.reg [] [⟨(some 13), .mv (.t 0),none,[]⟩,⟨(some 14), .qcall n_chunk_width [(.t 13)] [],none,[]⟩,⟨(some 15), .un .not (.t 14),none,[]⟩]) (.cond (.t 15) (.seq (.reg [] [⟨(some 16), .mki ty_api_Code (.k (.int .i64 1)),none,[]⟩,⟨(some 8), .mv (.t 16),none,[]⟩]) (.ret i_chunk_Fits_r)) .skip)) (.seq (.seq (.reg [] [⟨(some 17), .load true 5 (.t 5),none,[]⟩,⟨(some 18), .qcall n_tree_Check [(.t 17)] [],none,[]⟩,⟨(some 9), .mv (.t 18),none,[]⟩]) (.seq (.reg [] [⟨(some 19), .mv (.t 9),none,[]⟩,⟨(some 20), .bin (.iface ty_api_Code true) .neq (.t 19) (.k .nilIface),none,[]⟩]) (.cond (.t 20) (.seq (.reg [] [⟨(some 21), .mv (.t 9),none,[]⟩,⟨(some 8), .mv (.t 21),none,[]⟩]) (.ret i_chunk_Fits_r)) .skip))) (.seq (.reg [] [⟨(some 23), .mv (.t 0),none,[]⟩,⟨(some 24), .load true 5 (.t 7),none,[]⟩,⟨(some 25), .qcall n_tree_Digest [(.t 23), (.t 24)] [],none,[]⟩,⟨(some 22), .mv (.t 25),none,[]⟩,⟨(some 26), .ext 0 (.t 22),none,[]⟩,⟨(some 27), .ext 1 (.t 22),none,[]⟩,⟨(some 10), .cn (.t 26),none,[]⟩,⟨(some 11), .mv (.t 27),none,[]⟩]) (.seq (.reg [] [⟨(some 28), .load true 5 (.t 5),none,[]⟩,⟨(some 29), .qcall n_chunk_cuts [(.t 28)] [],none,[]⟩,⟨(some 12), .cn (.t 29),none,[]⟩]) (.seq (.block 0 i_chunk_Fits_j0 (.seq (.reg [] [⟨(some 31), .mv (.t 11),none,[]⟩,⟨(some 32), .bin (.iface ty_api_Code true) .neq (.t 31) (.k .nilIface),none,[]⟩,⟨(some 30), .mv (.t 32),none,[]⟩]) (.cond (.t 30) (.seq (.reg [] [⟨(some 33), .mv (.t 11),none,[]⟩,⟨(some 8), .mv (.t 33),none,[]⟩]) (.ret i_chunk_Fits_r)) (.seq (.reg [] [⟨(some 35), .load true 5 (.t 7),none,[]⟩,⟨(some 36), .qcall n_tree_Full [(.t 35)] [],none,[]⟩,⟨(some 37), .un .not (.t 36),none,[]⟩,⟨(some 38), .mv (.t 37),none,[]⟩,⟨(some 39), .fa 4 (.t 7), (some (38, false)), []⟩,⟨(some 40), .load false 1 (.t 39), (some (38, false)), []⟩,⟨(some 41), .len false (.t 40), (some (38, false)), []⟩,⟨(some 42), .bin .plain .eql (.t 41) (.k (.int .i64 0)), (some (38, false)), []⟩,⟨(some 43), .pick (.t 38) (.k (.bool true)) (.t 42),none,[]⟩,⟨(some 34), .mv (.t 43),none,[]⟩]) (.cond (.t 34) (.seq (.reg [] [⟨(some 44), .mki ty_api_Code (.k (.int .i64 3)),none,[]⟩,⟨(some 8), .mv (.t 44),none,[]⟩]) (.ret i_chunk_Fits_r)) (.seq (.reg [] [⟨(some 46), .mv (.t 2),none,[]⟩,⟨(some 47), .bin .plain .lss (.t 46) (.k (.int .i64 0)),none,[]⟩,⟨(some 48), .mv (.t 47),none,[]⟩,⟨(some 49), .mv (.t 2), (some (48, false)), []⟩,⟨(some 50), .cn (.t 12), (some (48, false)), []⟩,⟨(some 51), .len false (.t 50), (some (48, false)), []⟩,⟨(some 52), .bin .plain .geq (.t 49) (.t 51), (some (48, false)), []⟩,⟨(some 53), .pick (.t 48) (.k (.bool true)) (.t 52),none,[]⟩,⟨(some 45), .mv (.t 53),none,[]⟩]) (.cond (.t 45) (.seq (.reg [] [⟨(some 54), .mki ty_api_Code (.k (.int .i64 9)),none,[]⟩,⟨(some 8), .mv (.t 54),none,[]⟩]) (.ret i_chunk_Fits_r)) (.seq (.reg [] [⟨(some 56), .cn (.t 12),none,[]⟩,⟨(some 57), .mv (.t 2),none,[]⟩,⟨(some 58), .ia 5 (.t 56) (.t 57),none,[]⟩,⟨(some 59), .fa 3 (.t 58),none,[]⟩,⟨(some 60), .load false 1 (.t 59),none,[]⟩,⟨(some 61), .cn (.t 10),none,[]⟩,⟨(some 62), .qcall n_bytes_Equal [(.t 60), (.t 61)] [],none,[]⟩,⟨(some 63), .un .not (.t 62),none,[]⟩,⟨(some 55), .mv (.t 63),none,[]⟩]) (.cond (.t 55) (.seq (.reg [] [⟨(some 64), .mki ty_api_Code (.k (.int .i64 6)),none,[]⟩,⟨(some 8), .mv (.t 64),none,[]⟩]) (.ret i_chunk_Fits_r)) .skip))))))))) (.seq (.reg [] [⟨(some 8), .mv (.k .nilIface),none,[]⟩]) (.ret i_chunk_Fits_r)))))))),
 [.tmp 8], [], false, []⟩

def i_bytes_Equal_r : List Bool := [o_,o_,o_,o_,i_,o_,o_,o_,o_,o_]
/-- bytes.Equal -/
def i_bytes_Equal : Ev.Fn := ⟨2, 10, 0, (.seq (.reg [] [⟨(some 4), .mv (.k (.bool false)),none,[]⟩]) (.seq (.reg [] [⟨(some 5), .cn (.t 0),none,[]⟩,⟨(some 6), .b2s (.t 5),none,[]⟩,⟨(some 7), .cn (.t 1),none,[]⟩,⟨(some 8), .b2s (.t 7),none,[]⟩,⟨(some 9), .bin .plain .eql (.t 6) (.t 8),none,[]⟩,⟨(some 4), .mv (.t 9),none,[]⟩]) (.ret i_bytes_Equal_r))),
 [.tmp 4], [], false, []⟩

def i_chunk_Join_1_r : List Bool := [o_,o_,o_,o_,i_,o_,o_,o_,o_,o_,o_,o_,o_,o_,o_,o_,o_,o_,o_,o_,o_,o_,o_,o_,o_,o_,o_,o_,o_,o_,o_,o_,o_,o_,o_,o_,o_,o_,o_,o_,o_,o_]
/-- heartwood/chunk.Join$1 -/
def i_chunk_Join_1 : Ev.Fn := ⟨3, 42, 4, (.seq (.reg [] [⟨(some 3), .box 0 5 (.t 0),none,[]⟩,⟨(some 4), .new 1 [(.int .i64 0), (.slice none 0 0), (.slice none 0 0), (.slice none 0 0), (.slice none 0 0)],none,[]⟩]) (.seq (.seq (.reg [] [⟨(some 7), .fa 0 (.t 3),none,[]⟩,⟨(some 8), .load false 1 (.t 7),none,[]⟩,⟨(some 9), .bin .plain .eql (.t 8) (.k (.int .i64 3)),none,[]⟩]) (.cond (.t 9) (.seq (.reg [] [⟨(some 10), .load false 1 (.t 1),none,[]⟩,⟨(some 11), .ia 5 (.t 10) (.k (.int .i64 0)),none,[]⟩,⟨(some 12), .load true 5 (.t 11),none,[]⟩,⟨(some 5), .new 2 [(.int .i64 0), (.slice none 0 0), (.slice none 0 0), (.slice none 0 0), (.slice none 0 0)],none,[]⟩,⟨none, .store 5 (.t 5) (.t 12),none,[]⟩]) (.seq (.reg [] [⟨(some 13), .load false 1 (.t 1),none,[]⟩,⟨(some 14), .slice 5 (.t 13) (some (.k (.int .i64 1))) none none, none, [13]⟩,⟨none, .store 1 (.t 1) (.t 14),none,[]⟩]) (.seq (.reg [] [⟨(some 15), .load true 5 (.t 5),none,[]⟩,⟨none, .store 5 (.t 4) (.t 15),none,[]⟩]) (.ret i_chunk_Join_1_r)))) .skip)) (.seq (.seq (.reg [] [⟨(some 16), .fa 4 (.t 3),none,[]⟩,⟨(some 17), .load false 1 (.t 16),none,[]⟩,⟨(some 18), .len false (.t 17),none,[]⟩,⟨(some 19), .bin .plain .eql (.t 18) (.k (.int .i64 0)),none,[]⟩]) (.cond (.t 19) (.seq (.reg [] [⟨(some 20), .load true 5 (.t 3),none,[]⟩,⟨none, .store 5 (.t 4) (.t 20),none,[]⟩]) (.ret i_chunk_Join_1_r)) .skip)) (.seq (.reg [(0, 6), (2, 6), (3, 6), (4, 6), (5, 6)] [⟨(some 21), .load false 1 (.t 2),none,[]⟩,⟨(some 22), .fa 4 (.t 3),none,[]⟩,⟨(some 23), .load false 1 (.t 22),none,[]⟩,⟨(some 24), .ia 5 (.t 23) (.k (.int .i64 0)),none,[]⟩,⟨(some 25), .load true 5 (.t 24),none,[]⟩,⟨(some 26), .callv (.t 21) [(.t 25)] [], none, [25]⟩,⟨(some 6), .new 3 [(.int .i64 0), (.slice none 0 0), (.slice none 0 0), (.slice none 0 0), (.slice none 0 0)],none,[]⟩,⟨none, .store 5 (.t 6) (.t 26),none,[]⟩]) (.seq (.reg [(1, 12), (3, 12), (5, 12), (6, 12), (1, 13), (3, 13), (5, 13)] [⟨(some 27), .fa 0 (.t 3),none,[]⟩,⟨(some 28), .load false 1 (.t 27),none,[]⟩,⟨(some 29), .fa 1 (.t 3),none,[]⟩,⟨(some 30), .load false 1 (.t 29),none,[]⟩,⟨(some 31), .fa 2 (.t 3),none,[]⟩,⟨(some 32), .load false 1 (.t 31),none,[]⟩,⟨(some 33), .load true 5 (.t 6),none,[]⟩,⟨(some 34), .load false 1 (.t 2),none,[]⟩,⟨(some 35), .fa 4 (.t 3),none,[]⟩,⟨(some 36), .load false 1 (.t 35),none,[]⟩,⟨(some 37), .ia 5 (.t 36) (.k (.int .i64 1)),none,[]⟩,⟨(some 38), .load true 5 (.t 37),none,[]⟩,⟨(some 39), .callv (.t 34) [(.t 38)] [], none, [38]⟩,⟨(some 40), .litd 5 2 [(.int .i64 0), (.slice none 0 0), (.slice none 0 0), (.slice none 0 0), (.slice none 0 0)] [(0, (.t 33)), (1, (.t 39))], none, [33]⟩,⟨(some 41), .build [(.int .i64 0), (.slice none 0 0), (.slice none 0 0), (.slice none 0 0), (.slice none 0 0)] [(0, 1, (.t 28)), (1, 1, (.t 30)), (2, 1, (.t 32)), (4, 1, (.t 40))], none, [30, 32]⟩,⟨none, .store 5 (.t 4) (.t 41),none,[]⟩]) (.ret i_chunk_Join_1_r)))))),
 [.cell 4 true 5], [], false, []⟩

def i_chunk_Count_r : List Bool := [o_,o_,i_,o_,o_,o_,o_,o_,o_]
/-- heartwood/chunk.Count -/
def i_chunk_Count : Ev.Fn := ⟨1, 9, 1, (.seq (.reg [] [⟨(some 1), .box 0 5 (.t 0),none,[]⟩,⟨(some 2), .mv (.k (.int .i64 0)),none,[]⟩]) (.seq (.seq (.reg [] [⟨(some 3), .load true 5 (.t 1),none,[]⟩,⟨(some 4), .qcall n_tree_Check [(.t 3)] [],none,[]⟩,⟨(some 5), .bin (.iface ty_api_Code true) .neq (.t 4) (.k .nilIface),none,[]⟩]) (.cond (.t 5) (.seq (.reg [] [⟨(some 2), .mv (.k (.int .i64 0)),none,[]⟩]) (.ret i_chunk_Count_r)) .skip)) (.seq (.reg [] [⟨(some 6), .load true 5 (.t 1),none,[]⟩,⟨(some 7), .qcall n_chunk_cuts [(.t 6)] [],none,[]⟩,⟨(some 8), .len false (.t 7),none,[]⟩,⟨(some 2), .mv (.t 8),none,[]⟩]) (.ret i_chunk_Count_r)))),
 [.tmp 2], [], false, []⟩

def i_ref04_Same_r : List Bool := [o_,o_,o_,o_,i_,o_,o_,o_,o_,o_,o_,o_,o_,o_,o_,o_,o_,o_,o_,o_,o_,o_,o_,o_,o_,o_,o_,o_,o_,o_,o_,o_,o_,o_,o_,o_,o_,o_,o_,o_,o_,o_,o_,o_,o_,o_,o_,o_,o_,o_,o_,o_,o_,o_,o_,o_,o_,o_,o_,o_,o_,o_,o_,o_,o_,o_,o_,o_]
def i_ref04_Same_j1 : List Bool := [o_,o_,i_,i_,o_,i_,o_,o_,o_,o_,o_,o_,o_,o_,o_,o_,o_,o_,o_,o_,o_,o_,o_,o_,o_,o_,o_,o_,o_,o_,o_,o_,o_,o_,o_,o_,o_,o_,o_,o_,o_,o_,o_,o_,o_,o_,o_,o_,o_,o_,o_,o_,o_,o_,o_,o_,o_,o_,o_,o_,o_,o_,o_,o_,o_,o_,o_,o_]
def i_ref04_Same_k0 : List Bool := [o_,o_,i_,i_,o_,i_,o_,o_,o_,o_,o_,o_,o_,o_,o_,o_,o_,o_,o_,o_,o_,o_,o_,o_,o_,o_,o_,o_,o_,o_,o_,o_,o_,o_,o_,o_,o_,o_,o_,o_,o_,o_,o_,o_,o_,o_,o_,o_,o_,o_,o_,o_,o_,o_,o_,o_,o_,o_,o_,o_,o_,o_,o_,o_,o_,o_,o_,o_]
def i_ref04_Same_j0 : List Bool := [o_,o_,o_,o_,o_,o_,o_,o_,o_,o_,o_,o_,o_,o_,o_,o_,o_,o_,o_,o_,o_,o_,o_,o_,o_,o_,o_,o_,o_,o_,o_,o_,o_,o_,o_,o_,o_,o_,o_,o_,o_,o_,o_,o_,o_,o_,o_,o_,o_,o_,o_,o_,o_,o_,o_,o_,o_,o_,o_,o_,o_,o_,o_,o_,o_,o_,o_,o_]
abbrev s_ref04_Same_R (t4 : AV) (h : Heap) : St := ⟨[u_,u_,u_,u_,t4, u_,u_,u_,u_,u_,u_,u_,u_,u_,u_,u_,u_,u_,u_,u_,u_,u_,u_,u_,u_,u_,u_,u_,u_,u_,u_,u_,u_,u_,u_,u_,u_,u_,u_,u_,u_,u_,u_,u_,u_,u_,u_,u_,u_,u_,u_,u_,u_,u_,u_,u_,u_,u_,u_,u_,u_,u_,u_,u_,u_,u_,u_,u_], h⟩
abbrev s_ref04_Same_K0 (t2 t3 t5 : AV) (h : Heap) : St := ⟨[u_,u_,t2, t3, u_,t5, u_,u_,u_,u_,u_,u_,u_,u_,u_,u_,u_,u_,u_,u_,u_,u_,u_,u_,u_,u_,u_,u_,u_,u_,u_,u_,u_,u_,u_,u_,u_,u_,u_,u_,u_,u_,u_,u_,u_,u_,u_,u_,u_,u_,u_,u_,u_,u_,u_,u_,u_,u_,u_,u_,u_,u_,u_,u_,u_,u_,u_,u_], h⟩
def i_ref04_Same_b0 : IR := (.seq (.seq (.reg [] [⟨(some 48), .mv (.t 5),none,[]⟩,⟨(some 49), .fa 4 (.t 2),none,[]⟩,⟨(some 50), .load false 1 (.t 49),none,[]⟩,⟨(some 51), .len false (.t 50),none,[]⟩,⟨(some 52), .bin .plain .lss (.t 48) (.t 51),none,[]⟩]) (.cond (.t 52) .skip (.exit 0 i_ref04_Same_j0))) (.seq (.block 1 i_ref04_Same_j1 (.seq (.reg [] [⟨(some 55), .fa 4 (.t 2),none,[]⟩,⟨(some 56), .load false 1 (.t 55),none,[]⟩,⟨(some 57), .mv (.t 5),none,[]⟩,⟨(some 58), .ia 5 (.t 56) (.t 57),none,[]⟩,⟨(some 59), .load true 5 (.t 58),none,[]⟩,⟨(some 60), .fa 4 (.t 3),none,[]⟩,⟨(some 61), .load false 1 (.t 60),none,[]⟩,⟨(some 62), .mv (.t 5),none,[]⟩,⟨(some 63), .ia 5 (.t 61) (.t 62),none,[]⟩,⟨(some 64), .load true 5 (.t 63),none,[]⟩,⟨(some 65), .qcall n_ref04_Same [(.t 59), (.t 64)] [],none,[]⟩,⟨(some 6), .mv (.t 65),none,[]⟩]) (.seq (.reg [] [⟨(some 66), .mv (.t 6),none,[]⟩,⟨(some 67), .un .not (.t 66),none,[]⟩]) (.cond (.t 67) (.seq (.reg [] [⟨(some 4), .mv (.k (.bool false)),none,[]⟩]) (.ret i_ref04_Same_r)) .skip)))) (.reg [] [⟨(some 53), .mv (.t 5),none,[]⟩,⟨(some 54), .bin .plain .add (.t 53) (.k (.int .i64 1)),none,[]⟩,⟨(some 5), .mv (.t 54),none,[]⟩])))

abbrev s_ref04_Same_J0 (h : Heap) : St := ⟨[u_,u_,u_,u_,u_,u_,u_,u_,u_,u_,u_,u_,u_,u_,u_,u_,u_,u_,u_,u_,u_,u_,u_,u_,u_,u_,u_,u_,u_,u_,u_,u_,u_,u_,u_,u_,u_,u_,u_,u_,u_,u_,u_,u_,u_,u_,u_,u_,u_,u_,u_,u_,u_,u_,u_,u_,u_,u_,u_,u_,u_,u_,u_,u_,u_,u_,u_,u_], h⟩
/-- heartwood/heartwoodref04.Same -/
def i_ref04_Same : Ev.Fn := ⟨2, 68, 2, (.seq (.reg [] [⟨(some 2), .box 0 5 (.t 0),none,[]⟩,⟨(some 3), .box 1 5 (.t 1),none,[]⟩,⟨(some 4), .mv (.k (.bool false)),none,[]⟩]) (.seq (.seq (.reg [] [⟨(some 7), .fa 0 (.t 2),none,[]⟩,⟨(some 8), .load false 1 (.t 7),none,[]⟩,⟨(some 9), .fa 0 (.t 3),none,[]⟩,⟨(some 10), .load false 1 (.t 9),none,[]⟩,⟨(some 11), .bin .plain .neq (.t 8) (.t 10),none,[]⟩,⟨(some 12), .mv (.t 11),none,[]⟩,⟨(some 13), .fa 1 (.t 2), (some (12, false)), []⟩,⟨(some 14), .load false 1 (.t 13), (some (12, false)), []⟩,⟨(some 15), .b2s (.t 14), (some (12, false)), []⟩,⟨(some 16), .fa 1 (.t 3), (some (12, false)), []⟩,⟨(some 17), .load false 1 (.t 16), (some (12, false)), []⟩,⟨(some 18), .b2s (.t 17), (some (12, false)), []⟩,⟨(some 19), .bin .plain .neq (.t 15) (.t 18), (some (12, false)), []⟩,⟨(some 20), .pick (.t 12) (.k (.bool true)) (.t 19),none,[]⟩,⟨(some 21), .mv (.t 20),none,[]⟩,⟨(some 22), .fa 2 (.t 2), (some (21, false)), []⟩,⟨(some 23), .load false 1 (.t 22), (some (21, false)), []⟩,⟨(some 24), .b2s (.t 23), (some (21, false)), []⟩,⟨(some 25), .fa 2 (.t 3), (some (21, false)), []⟩,⟨(some 26), .load false 1 (.t 25), (some (21, false)), []⟩,⟨(some 27), .b2s (.t 26), (some (21, false)), []⟩,⟨(some 28), .bin .plain .neq (.t 24) (.t 27), (some (21, false)), []⟩,⟨(some 29), .pick (.t 21) (.k (.bool true)) (.t 28),none,[]⟩,⟨(some 30), .mv (.t 29),none,[]⟩,⟨(some 31), .fa 3 (.t 2), (some (30, false)), []⟩,⟨(some 32), .load false 1 (.t 31), (some (30, false)), []⟩,⟨(some 33), .b2s (.t 32), (some (30, false)), []⟩,⟨(some 34), .fa 3 (.t 3), (some (30, false)), []⟩,⟨(some 35), .load false 1 (.t 34), (some (30, false)), []⟩,⟨(some 36), .b2s (.t 35), (some (30, false)), []⟩,⟨(some 37), .bin .plain .neq (.t 33) (.t 36), (some (30, false)), []⟩,⟨(some 38), .pick (.t 30) (.k (.bool true)) (.t 37),none,[]⟩,⟨(some 39), .mv (.t 38),none,[]⟩,⟨(some 40), .fa 4 (.t 2), (some (39, false)), []⟩,⟨(some 41), .load false 1 (.t 40), (some (39, false)), []⟩,⟨(some 42), .len false (.t 41), (some (39, false)), []⟩,⟨(some 43), .fa 4 (.t 3), (some (39, false)), []⟩,⟨(some 44), .load false 1 (.t 43), (some (39, false)), []⟩,⟨(some 45), .len false (.t 44), (some (39, false)), []⟩,⟨(some 46), .bin .plain .neq (.t 42) (.t 45), (some (39, false)), []⟩,⟨(some 47), .pick (.t 39) (.k (.bool true)) (.t 46),none,[]⟩]) (.cond (.t 47) (.seq (.reg [] [⟨(some 4), .mv (.k (.bool false)),none,[]⟩]) (.ret i_ref04_Same_r)) .skip)) (.seq (.seq (.reg [] [⟨(some 5), .mv (.k (.int .i64 0)),none,[]⟩]) (.block 0 i_ref04_Same_j0 (.loop i_ref04_Same_k0 i_ref04_Same_b0))) (.seq (.reg [] [⟨(some 4), .mv (.k (.bool true)),none,[]⟩]) (.ret i_ref04_Same_r))))),
 [.tmp 4], [], false, []⟩

def i_law11_ChunkRoots_r : List Bool := [o_,o_,o_,o_,o_,o_,i_,o_,o_,o_,o_,o_,o_,o_,o_,o_,o_,o_,o_,o_,o_,o_,o_,o_,o_,o_,o_,o_,o_,o_,o_,o_,o_,o_,o_,o_,o_,o_,o_,o_,o_,o_,o_,o_,o_,o_,o_,o_,o_,o_,o_,o_,o_,o_,o_,o_,o_,o_,o_,o_,o_,o_,o_,o_,o_,o_]
/-- heartwood/heartwoodlaw11.ChunkRoots -/
def i_law11_ChunkRoots : Ev.Fn := ⟨3, 66, 3, (.seq (.reg [] [⟨(some 4), .box 0 5 (.t 1),none,[]⟩,⟨(some 6), .mv (.k (.bool false)),none,[]⟩]) (.seq (.reg [] [⟨(some 14), .qcall n_law11_up [] [],none,[]⟩,⟨(some 7), .mv (.t 14),none,[]⟩]) (.seq (.seq (.reg [] [⟨(some 15), .load true 5 (.t 4),none,[]⟩,⟨(some 16), .qcall n_law11_small [(.t 15)] [],none,[]⟩,⟨(some 17), .un .not (.t 16),none,[]⟩,⟨(some 18), .mv (.t 17),none,[]⟩,⟨(some 19), .cn (.t 2), (some (18, false)), []⟩,⟨(some 20), .qcall n_law11_all [(.t 19)] [], (some (18, false)), []⟩,⟨(some 21), .un .not (.t 20), (some (18, false)), []⟩,⟨(some 22), .pick (.t 18) (.k (.bool true)) (.t 21),none,[]⟩]) (.cond (.t 22) (.seq (.reg [] [⟨(some 23), .mv (.t 7),none,[]⟩,⟨(some 6), .mv (.t 23),none,[]⟩]) (.ret i_law11_ChunkRoots_r)) .skip)) (.seq (.reg [] [⟨(some 25), .mv (.t 0),none,[]⟩,⟨(some 26), .load true 5 (.t 4),none,[]⟩,⟨(some 27), .cn (.t 2),none,[]⟩,⟨(some 28), .call n_chunk_Join [(.t 25), (.t 26), (.t 27)] [1],none,[]⟩,⟨(some 24), .mv (.t 28),none,[]⟩,⟨(some 29), .ext 0 (.t 24),none,[]⟩,⟨(some 30), .ext 1 (.t 24),none,[]⟩,⟨(some 8), .new 2 [(.int .i64 0), (.slice none 0 0), (.slice none 0 0), (.slice none 0 0), (.slice none 0 0)],none,[]⟩,⟨none, .store 5 (.t 8) (.t 29),none,[]⟩,⟨(some 9), .mv (.t 30),none,[]⟩]) (.seq (.seq (.reg [] [⟨(some 31), .mv (.t 9),none,[]⟩,⟨(some 32), .bin (.iface ty_api_Code true) .neq (.t 31) (.k .nilIface),none,[]⟩]) (.cond (.t 32) (.seq (.reg [] [⟨(some 33), .mv (.t 7),none,[]⟩,⟨(some 6), .mv (.t 33),none,[]⟩]) (.ret i_law11_ChunkRoots_r)) .skip)) (.seq (.reg [] [⟨(some 35), .mv (.t 0),none,[]⟩,⟨(some 36), .load true 5 (.t 4),none,[]⟩,⟨(some 37), .qcall n_tree_Digest [(.t 35), (.t 36)] [],none,[]⟩,⟨(some 34), .mv (.t 37),none,[]⟩,⟨(some 38), .ext 0 (.t 34),none,[]⟩,⟨(some 39), .ext 1 (.t 34),none,[]⟩,⟨(some 10), .cn (.t 38),none,[]⟩,⟨(some 11), .mv (.t 39),none,[]⟩]) (.seq (.reg [] [⟨(some 41), .mv (.t 0),none,[]⟩,⟨(some 42), .load true 5 (.t 8),none,[]⟩,⟨(some 43), .qcall n_tree_Digest [(.t 41), (.t 42)] [],none,[]⟩,⟨(some 40), .mv (.t 43),none,[]⟩,⟨(some 44), .ext 0 (.t 40),none,[]⟩,⟨(some 45), .ext 1 (.t 40),none,[]⟩,⟨(some 12), .cn (.t 44),none,[]⟩,⟨(some 13), .mv (.t 45),none,[]⟩]) (.seq (.reg [] [⟨(some 46), .mv (.t 7),none,[]⟩,⟨(some 47), .mv (.t 46),none,[]⟩,⟨(some 48), .mv (.t 11), (some (47, true)), []⟩,⟨(some 49), .bin (.iface ty_api_Code true) .eql (.t 48) (.k .nilIface), (some (47, true)), []⟩,⟨(some 50), .pick (.t 47) (.t 49) (.k (.bool false)),none,[]⟩,⟨(some 51), .mv (.t 50),none,[]⟩,⟨(some 52), .mv (.t 13), (some (51, true)), []⟩,⟨(some 53), .bin (.iface ty_api_Code true) .eql (.t 52) (.k .nilIface), (some (51, true)), []⟩,⟨(some 54), .pick (.t 51) (.t 53) (.k (.bool false)),none,[]⟩,⟨(some 55), .mv (.t 54),none,[]⟩,⟨(some 56), .cn (.t 10), (some (55, true)), []⟩,⟨(some 57), .b2s (.t 56), (some (55, true)), []⟩,⟨(some 58), .cn (.t 12), (some (55, true)), []⟩,⟨(some 59), .b2s (.t 58), (some (55, true)), []⟩,⟨(some 60), .bin .plain .eql (.t 57) (.t 59), (some (55, true)), []⟩,⟨(some 61), .pick (.t 55) (.t 60) (.k (.bool false)),none,[]⟩,⟨(some 62), .mv (.t 61),none,[]⟩,⟨(some 63), .load true 5 (.t 8), (some (62, true)), []⟩,⟨(some 64), .qcall n_tree_Full [(.t 63)] [], (some (62, true)), []⟩,⟨(some 65), .pick (.t 62) (.t 64) (.k (.bool false)),none,[]⟩,⟨(some 6), .mv (.t 65),none,[]⟩]) (.ret i_law11_ChunkRoots_r))))))))),
 [.tmp 6], [], false, []⟩

def i_law11_small_r : List Bool := [o_,o_,i_,o_,o_,o_]
/-- heartwood/heartwoodlaw11.small -/
def i_law11_small : Ev.Fn := ⟨1, 6, 1, (.seq (.reg [] [⟨(some 1), .box 0 5 (.t 0),none,[]⟩,⟨(some 2), .mv (.k (.bool false)),none,[]⟩]) (.seq (.reg [] [⟨(some 3), .load true 5 (.t 1),none,[]⟩,⟨(some 4), .qcall n_ref04_Light [(.t 3), (.k (.int .i64 200)), (.k (.int .i64 100))] [],none,[]⟩,⟨(some 5), .bin .plain .geq (.t 4) (.k (.int .i64 0)),none,[]⟩,⟨(some 2), .mv (.t 5),none,[]⟩]) (.ret i_law11_small_r))),
 [.tmp 2], [], false, []⟩

def i_ref04_Light_r : List Bool := [o_,o_,o_,o_,o_,o_,i_,o_,o_,o_,o_,o_,o_,o_,o_,o_,o_,o_,o_,o_,o_,o_,o_,o_,o_,o_,o_,o_,o_,o_,o_,o_,o_,o_,o_,o_,o_,o_,o_,o_,o_,o_,o_,o_,o_,o_,o_,o_,o_,o_,o_,o_,o_,o_,o_,o_,o_,o_,o_,o_]
def i_ref04_Light_j1 : List Bool := [o_,i_,i_,i_,o_,o_,o_,i_,o_,o_,o_,o_,o_,o_,o_,o_,o_,o_,o_,o_,o_,o_,o_,o_,o_,o_,o_,o_,o_,o_,o_,o_,o_,o_,o_,o_,o_,o_,o_,o_,o_,o_,o_,o_,o_,o_,o_,o_,o_,o_,o_,o_,o_,o_,o_,o_,o_,o_,o_,o_]
def i_ref04_Light_k0 : List Bool := [o_,i_,i_,i_,o_,o_,o_,i_,o_,o_,o_,o_,o_,o_,o_,o_,o_,o_,o_,o_,o_,o_,o_,o_,o_,o_,o_,o_,o_,o_,o_,o_,o_,o_,o_,o_,o_,o_,o_,o_,o_,o_,o_,o_,o_,o_,o_,o_,o_,o_,o_,o_,o_,o_,o_,o_,o_,o_,o_,o_]
def i_ref04_Light_j0 : List Bool := [o_,i_,o_,o_,o_,o_,o_,o_,o_,o_,o_,o_,o_,o_,o_,o_,o_,o_,o_,o_,o_,o_,o_,o_,o_,o_,o_,o_,o_,o_,o_,o_,o_,o_,o_,o_,o_,o_,o_,o_,o_,o_,o_,o_,o_,o_,o_,o_,o_,o_,o_,o_,o_,o_,o_,o_,o_,o_,o_,o_]
abbrev s_ref04_Light_R (t6 : AV) (h : Heap) : St := ⟨[u_,u_,u_,u_,u_,u_,t6, u_,u_,u_,u_,u_,u_,u_,u_,u_,u_,u_,u_,u_,u_,u_,u_,u_,u_,u_,u_,u_,u_,u_,u_,u_,u_,u_,u_,u_,u_,u_,u_,u_,u_,u_,u_,u_,u_,u_,u_,u_,u_,u_,u_,u_,u_,u_,u_,u_,u_,u_,u_,u_], h⟩
abbrev s_ref04_Light_K0 (t1 t2 t3 t7 : AV) (h : Heap) : St := ⟨[u_,t1, t2, t3, u_,u_,u_,t7, u_,u_,u_,u_,u_,u_,u_,u_,u_,u_,u_,u_,u_,u_,u_,u_,u_,u_,u_,u_,u_,u_,u_,u_,u_,u_,u_,u_,u_,u_,u_,u_,u_,u_,u_,u_,u_,u_,u_,u_,u_,u_,u_,u_,u_,u_,u_,u_,u_,u_,u_,u_], h⟩
def i_ref04_Light_b0 : IR := (.seq (.seq (.reg [] [⟨(some 41), .mv (.t 7),none,[]⟩,⟨(some 42), .fa 4 (.t 3),none,[]⟩,⟨(some 43), .load false 1 (.t 42),none,[]⟩,⟨(some 44), .len false (.t 43),none,[]⟩,⟨(some 45), .bin .plain .lss (.t 41) (.t 44),none,[]⟩]) (.cond (.t 45) .skip (.exit 0 i_ref04_Light_j0))) (.seq (.block 1 i_ref04_Light_j1 (.seq (.reg [] [⟨(some 48), .fa 4 (.t 3),none,[]⟩,⟨(some 49), .load false 1 (.t 48),none,[]⟩,⟨(some 50), .mv (.t 7),none,[]⟩,⟨(some 51), .ia 5 (.t 49) (.t 50),none,[]⟩,⟨(some 52), .load true 5 (.t 51),none,[]⟩,⟨(some 53), .mv (.t 1),none,[]⟩,⟨(some 54), .mv (.t 2),none,[]⟩,⟨(some 55), .bin .plain .sub (.t 54) (.k (.int .i64 1)),none,[]⟩,⟨(some 56), .qcall n_ref04_Light [(.t 52), (.t 53), (.t 55)] [],none,[]⟩,⟨(some 1), .mv (.t 56),none,[]⟩]) (.seq (.reg [] [⟨(some 57), .mv (.t 1),none,[]⟩,⟨(some 58), .bin .plain .lss (.t 57) (.k (.int .i64 0)),none,[]⟩]) (.cond (.t 58) (.seq (.reg [] [⟨(some 6), .mv (.k (.int .i64 (-1))),none,[]⟩]) (.ret i_ref04_Light_r)) .skip)))) (.reg [] [⟨(some 46), .mv (.t 7),none,[]⟩,⟨(some 47), .bin .plain .add (.t 46) (.k (.int .i64 1)),none,[]⟩,⟨(some 7), .mv (.t 47),none,[]⟩])))

abbrev s_ref04_Light_J0 (t1 : AV) (h : Heap) : St := ⟨[u_,t1, u_,u_,u_,u_,u_,u_,u_,u_,u_,u_,u_,u_,u_,u_,u_,u_,u_,u_,u_,u_,u_,u_,u_,u_,u_,u_,u_,u_,u_,u_,u_,u_,u_,u_,u_,u_,u_,u_,u_,u_,u_,u_,u_,u_,u_,u_,u_,u_,u_,u_,u_,u_,u_,u_,u_,u_,u_,u_], h⟩
/-- heartwood/heartwoodref04.Light -/
def i_ref04_Light : Ev.Fn := ⟨3, 60, 1, (.seq (.reg [] [⟨(some 3), .box 0 5 (.t 0),none,[]⟩,⟨(some 6), .mv (.k (.int .i64 0)),none,[]⟩]) (.seq (.reg [] [⟨(some 8), .mv (.t 1),none,[]⟩,⟨(some 9), .bin .plain .sub (.t 8) (.k (.int .i64 1)),none,[]⟩,⟨(some 1), .mv (.t 9),none,[]⟩]) (.seq (.seq (.reg [] [⟨(some 10), .mv (.t 2),none,[]⟩,⟨(some 11), .bin .plain .eql (.t 10) (.k (.int .i64 0)),none,[]⟩,⟨(some 12), .mv (.t 11),none,[]⟩,⟨(some 13), .mv (.t 1), (some (12, false)), []⟩,⟨(some 14), .bin .plain .lss (.t 13) (.k (.int .i64 0)), (some (12, false)), []⟩,⟨(some 15), .pick (.t 12) (.k (.bool true)) (.t 14),none,[]⟩,⟨(some 16), .mv (.t 15),none,[]⟩,⟨(some 17), .fa 4 (.t 3), (some (16, false)), []⟩,⟨(some 18), .load false 1 (.t 17), (some (16, false)), []⟩,⟨(some 19), .len false (.t 18), (some (16, false)), []⟩,⟨(some 20), .mv (.t 1), (some (16, false)), []⟩,⟨(some 21), .bin .plain .gtr (.t 19) (.t 20), (some (16, false)), []⟩,⟨(some 22), .pick (.t 16) (.k (.bool true)) (.t 21),none,[]⟩,⟨(some 23), .mv (.t 22),none,[]⟩,⟨(some 24), .fa 1 (.t 3), (some (23, false)), []⟩,⟨(some 25), .load false 1 (.t 24), (some (23, false)), []⟩,⟨(some 26), .len false (.t 25), (some (23, false)), []⟩,⟨(some 27), .bin .plain .gtr (.t 26) (.k (.int .i64 3000)), (some (23, false)), []⟩,⟨(some 28), .pick (.t 23) (.k (.bool true)) (.t 27),none,[]⟩,⟨(some 29), .mv (.t 28),none,[]⟩,⟨(some 30), .fa 2 (.t 3), (some (29, false)), []⟩,⟨(some 31), .load false 1 (.t 30), (some (29, false)), []⟩,⟨(some 32), .len false (.t 31), (some (29, false)), []⟩,⟨(some 33), .bin .plain .gtr (.t 32) (.k (.int .i64 3000)), (some (29, false)), []⟩,⟨(some 34), .pick (.t 29) (.k (.bool true)) (.t 33),none,[]⟩,⟨(some 35), .mv (.t 34),none,[]⟩,⟨(some 36), .fa 3 (.t 3), (some (35, false)), []⟩,⟨(some 37), .load false 1 (.t 36), (some (35, false)), []⟩,⟨(some 38), .len false (.t 37), (some (35, false)), []⟩,⟨(some 39), .bin .plain .gtr (.t 38) (.k (.int .i64 3000)), (some (35, false)), []⟩,⟨(some 40), .pick (.t 35) (.k (.bool true)) (.t 39),none,[]⟩]) (.cond (.t 40) (.seq (.reg [] [⟨(some 6), .mv (.k (.int .i64 (-1))),none,[]⟩]) (.ret i_ref04_Light_r)) .skip)) (.seq (.seq (.reg [] [⟨(some 7), .mv (.k (.int .i64 0)),none,[]⟩]) (.block 0 i_ref04_Light_j0 (.loop i_ref04_Light_k0 i_ref04_Light_b0))) (.seq (.reg [] [⟨(some 59), .mv (.t 1),none,[]⟩,⟨(some 6), .mv (.t 59),none,[]⟩]) (.ret i_ref04_Light_r)))))),
 [.tmp 6], [], false, []⟩

def i_law11_all_r : List Bool := [o_,o_,i_,o_,o_,o_,o_,o_,o_,o_,o_,o_,o_,o_,o_,o_,o_,o_,o_,o_,o_]
def i_law11_all_j1 : List Bool := [i_,o_,o_,i_,o_,o_,o_,o_,o_,o_,o_,o_,o_,o_,o_,o_,o_,o_,o_,o_,o_]
def i_law11_all_k0 : List Bool := [i_,o_,o_,i_,o_,o_,o_,o_,o_,o_,o_,o_,o_,o_,o_,o_,o_,o_,o_,o_,o_]
def i_law11_all_j0 : List Bool := [o_,o_,o_,o_,o_,o_,o_,o_,o_,o_,o_,o_,o_,o_,o_,o_,o_,o_,o_,o_,o_]
abbrev s_law11_all_R (t2 : AV) (h : Heap) : St := ⟨[u_,u_,t2, u_,u_,u_,u_,u_,u_,u_,u_,u_,u_,u_,u_,u_,u_,u_,u_,u_,u_], h⟩
abbrev s_law11_all_K0 (t0 t3 : AV) (h : Heap) : St := ⟨[t0, u_,u_,t3, u_,u_,u_,u_,u_,u_,u_,u_,u_,u_,u_,u_,u_,u_,u_,u_,u_], h⟩
def i_law11_all_b0 : IR := (.seq (.seq (.reg [] [⟨(some 8), .mv (.t 3),none,[]⟩,⟨(some 9), .cn (.t 0),none,[]⟩,⟨(some 10), .len false (.t 9),none,[]⟩,⟨(some 11), .bin .plain .lss (.t 8) (.t 10),none,[]⟩]) (.cond (.t 11) .skip (.exit 0 i_law11_all_j0))) (.seq (.block 1 i_law11_all_j1 (.seq (.reg [] [⟨(some 14), .cn (.t 0),none,[]⟩,⟨(some 15), .mv (.t 3),none,[]⟩,⟨(some 16), .ia 5 (.t 14) (.t 15),none,[]⟩,⟨(some 17), .load true 5 (.t 16),none,[]⟩,⟨(some 18), .qcall n_law11_small [(.t 17)] [],none,[]⟩,⟨(some 4), .mv (.t 18),none,[]⟩]) (.seq (.reg [] [⟨(some 19), .mv (.t 4),none,[]⟩,⟨(some 20), .un .not (.t 19),none,[]⟩]) (.cond (.t 20) (.seq (.reg [] [⟨(some 2), .mv (.k (.bool false)),none,[]⟩]) (.ret i_law11_all_r)) .skip)))) (.reg [] [⟨(some 12), .mv (.t 3),none,[]⟩,⟨(some 13), .bin .plain .add (.t 12) (.k (.int .i64 1)),none,[]⟩,⟨(some 3), .mv (.t 13),none,[]⟩])))

abbrev s_law11_all_J0 (h : Heap) : St := ⟨[u_,u_,u_,u_,u_,u_,u_,u_,u_,u_,u_,u_,u_,u_,u_,u_,u_,u_,u_,u_,u_], h⟩
/-- heartwood/heartwoodlaw11.all -/
def i_law11_all : Ev.Fn := ⟨1, 21, 0, (.seq (.reg [] [⟨(some 2), .mv (.k (.bool false)),none,[]⟩]) (.seq (.seq (.reg [] [⟨(some 5), .cn (.t 0),none,[]⟩,⟨(some 6), .len false (.t 5),none,[]⟩,⟨(some 7), .bin .plain .gtr (.t 6) (.k (.int .i64 40)),none,[]⟩]) (.cond (.t 7) (.seq (.reg [] [⟨(some 2), .mv (.k (.bool false)),none,[]⟩]) (.ret i_law11_all_r)) .skip)) (.seq (.seq (.reg [] [⟨(some 3), .mv (.k (.int .i64 0)),none,[]⟩]) (.block 0 i_law11_all_j0 (.loop i_law11_all_k0 i_law11_all_b0))) (.seq (.reg [] [⟨(some 2), .mv (.k (.bool true)),none,[]⟩]) (.ret i_law11_all_r))))),
 [.tmp 2], [], false, []⟩

def i_law11_ChunkStays_r : List Bool := [o_,o_,o_,o_,i_,o_,o_,o_,o_,o_,o_,o_,o_,o_,o_,o_,o_,o_,o_,o_,o_,o_,o_,o_,o_,o_,o_,o_,o_,o_,o_,o_,o_,o_,o_,o_,o_,o_,o_,o_,o_,o_,o_,o_,o_,o_,o_,o_,o_,o_,o_,o_,o_,o_,o_,o_,o_,o_,o_,o_,o_,o_,o_,o_,o_,o_,o_,o_,o_,o_,o_,o_,o_,o_,o_,o_,o_,o_,o_,o_,o_,o_,o_,o_,o_]
/-- heartwood/heartwoodlaw11.ChunkStays -/
def i_law11_ChunkStays : Ev.Fn := ⟨2, 85, 8, (.seq (.reg [] [⟨(some 4), .mv (.k (.bool false)),none,[]⟩]) (.seq (.reg [] [⟨(some 18), .qcall n_law11_up [] [],none,[]⟩,⟨(some 5), .mv (.t 18),none,[]⟩]) (.seq (.reg [] [⟨(some 19), .cn (.t 0),none,[]⟩,⟨(some 20), .qcall n_ref05_Grown [(.t 19)] [],none,[]⟩,⟨(some 6), .new 0 [(.int .i64 0), (.slice none 0 0), (.slice none 0 0), (.slice none 0 0), (.slice none 0 0)],none,[]⟩,⟨none, .store 5 (.t 6) (.t 20),none,[]⟩]) (.seq (.reg [] [⟨(some 21), .load true 5 (.t 6),none,[]⟩,⟨(some 22), .qcall n_ref04_Copy [(.t 21)] [],none,[]⟩,⟨(some 7), .new 1 [(.int .i64 0), (.slice none 0 0), (.slice none 0 0), (.slice none 0 0), (.slice none 0 0)],none,[]⟩,⟨none, .store 5 (.t 7) (.t 22),none,[]⟩]) (.seq (.seq (.reg [] [⟨(some 23), .mv (.t 1),none,[]⟩,⟨(some 24), .bin .plain .lss (.t 23) (.k (.int .i64 0)),none,[]⟩]) (.cond (.t 24) (.reg [] [⟨(some 25), .mv (.t 1),none,[]⟩,⟨(some 26), .bin .plain .add (.t 25) (.k (.int .i64 1)),none,[]⟩,⟨(some 27), .un .neg (.t 26),none,[]⟩,⟨(some 1), .mv (.t 27),none,[]⟩]) .skip)) (.seq (.reg [] [⟨(some 29), .load true 5 (.t 7),none,[]⟩,⟨(some 30), .mv (.t 1),none,[]⟩,⟨(some 31), .bin .plain .rem (.t 30) (.k (.int .i64 8)),none,[]⟩,⟨(some 32), .qcall n_chunk_Cut [(.k (.int .i64 4)), (.t 29), (.t 31)] [],none,[]⟩,⟨(some 28), .mv (.t 32),none,[]⟩,⟨(some 33), .ext 0 (.t 28),none,[]⟩,⟨(some 34), .ext 1 (.t 28),none,[]⟩,⟨(some 35), .ext 2 (.t 28),none,[]⟩,⟨(some 8), .new 2 [(.int .i64 0), (.slice none 0 0), (.slice none 0 0), (.slice none 0 0), (.slice none 0 0)],none,[]⟩,⟨none, .store 5 (.t 8) (.t 33),none,[]⟩,⟨(some 9), .cn (.t 34),none,[]⟩,⟨(some 10), .mv (.t 35),none,[]⟩]) (.seq (.reg [] [⟨(some 36), .load true 5 (.t 7),none,[]⟩,⟨(some 37), .load true 5 (.t 6),none,[]⟩,⟨(some 38), .qcall n_ref04_Same [(.t 36), (.t 37)] [],none,[]⟩,⟨(some 11), .mv (.t 38),none,[]⟩]) (.seq (.reg [] [⟨(some 39), .load true 5 (.t 8),none,[]⟩,⟨(some 40), .qcall n_ref04_Copy [(.t 39)] [],none,[]⟩,⟨(some 12), .new 3 [(.int .i64 0), (.slice none 0 0), (.slice none 0 0), (.slice none 0 0), (.slice none 0 0)],none,[]⟩,⟨none, .store 5 (.t 12) (.t 40),none,[]⟩]) (.seq (.reg [] [⟨(some 42), .load true 5 (.t 8),none,[]⟩,⟨(some 43), .cn (.t 9),none,[]⟩,⟨(some 44), .call n_chunk_Join [(.k (.int .i64 4)), (.t 42), (.t 43)] [4],none,[]⟩,⟨(some 41), .mv (.t 44),none,[]⟩,⟨(some 45), .ext 0 (.t 41),none,[]⟩,⟨(some 46), .ext 1 (.t 41),none,[]⟩,⟨(some 13), .new 5 [(.int .i64 0), (.slice none 0 0), (.slice none 0 0), (.slice none 0 0), (.slice none 0 0)],none,[]⟩,⟨none, .store 5 (.t 13) (.t 45),none,[]⟩,⟨(some 14), .mv (.t 46),none,[]⟩]) (.seq (.reg [] [⟨(some 47), .load true 5 (.t 8),none,[]⟩,⟨(some 48), .load true 5 (.t 12),none,[]⟩,⟨(some 49), .qcall n_ref04_Same [(.t 47), (.t 48)] [],none,[]⟩,⟨(some 50), .mv (.t 49),none,[]⟩,⟨(some 51), .load true 5 (.t 7), (some (50, true)), []⟩,⟨(some 52), .load true 5 (.t 6), (some (50, true)), []⟩,⟨(some 53), .qcall n_ref04_Same [(.t 51), (.t 52)] [], (some (50, true)), []⟩,⟨(some 54), .pick (.t 50) (.t 53) (.k (.bool false)),none,[]⟩,⟨(some 15), .mv (.t 54),none,[]⟩]) (.seq (.reg [] [⟨(some 56), .load true 5 (.t 8),none,[]⟩,⟨(some 57), .cn (.t 9),none,[]⟩,⟨(some 58), .call n_chunk_Join [(.k (.int .i64 4)), (.t 56), (.t 57)] [6],none,[]⟩,⟨(some 55), .mv (.t 58),none,[]⟩,⟨(some 59), .ext 0 (.t 55),none,[]⟩,⟨(some 60), .ext 1 (.t 55),none,[]⟩,⟨(some 16), .new 7 [(.int .i64 0), (.slice none 0 0), (.slice none 0 0), (.slice none 0 0), (.slice none 0 0)],none,[]⟩,⟨none, .store 5 (.t 16) (.t 59),none,[]⟩,⟨(some 17), .mv (.t 60),none,[]⟩]) (.seq (.reg [] [⟨(some 61), .mv (.t 5),none,[]⟩,⟨(some 62), .mv (.t 61),none,[]⟩,⟨(some 63), .mv (.t 11), (some (62, true)), []⟩,⟨(some 64), .pick (.t 62) (.t 63) (.k (.bool false)),none,[]⟩,⟨(some 65), .mv (.t 64),none,[]⟩,⟨(some 66), .mv (.t 15), (some (65, true)), []⟩,⟨(some 67), .pick (.t 65) (.t 66) (.k (.bool false)),none,[]⟩,⟨(some 68), .mv (.t 67),none,[]⟩,⟨(some 69), .mv (.t 10), (some (68, true)), []⟩,⟨(some 70), .bin (.iface ty_api_Code true) .eql (.t 69) (.k .nilIface), (some (68, true)), []⟩,⟨(some 71), .pick (.t 68) (.t 70) (.k (.bool false)),none,[]⟩,⟨(some 72), .mv (.t 71),none,[]⟩,⟨(some 73), .mv (.t 14), (some (72, true)), []⟩,⟨(some 74), .bin (.iface ty_api_Code true) .eql (.t 73) (.k .nilIface), (some (72, true)), []⟩,⟨(some 75), .pick (.t 72) (.t 74) (.k (.bool false)),none,[]⟩,⟨(some 76), .mv (.t 75),none,[]⟩,⟨(some 77), .mv (.t 17), (some (76, true)), []⟩,⟨(some 78), .bin (.iface ty_api_Code true) .eql (.t 77) (.k .nilIface), (some (76, true)), []⟩,⟨(some 79), .pick (.t 76) (.t 78) (.k (.bool false)),none,[]⟩,⟨(some 80), .mv (.t 79),none,[]⟩,⟨(some 81), .load true 5 (.t 13), (some (80, true)), []⟩,⟨(some 82), .load true 5 (.t 16), (some (80, true)), []⟩,⟨(some 83), .qcall n_ref04_Same [(.t 81), (.t 82)] [], (some (80, true)), []⟩,⟨(some 84), .pick (.t 80) (.t 83) (.k (.bool false)),none,[]⟩,⟨(some 4), .mv (.t 84),none,[]⟩]) (.ret i_law11_ChunkStays_r))))))))))))),
 [.tmp 4], [], false, []⟩

def i_ref04_Copy_r : List Bool := [o_,o_,i_,o_,o_,o_,o_,o_,o_,o_,o_,o_,o_,o_,o_,o_,o_,o_,o_,o_,o_,o_,o_,o_,o_,o_,o_,o_,o_,o_,o_,o_,o_,o_,o_,o_,o_,o_,o_]
def i_ref04_Copy_j1 : List Bool := [o_,i_,i_,i_,i_,o_,o_,o_,o_,o_,o_,o_,o_,o_,o_,o_,o_,o_,o_,o_,o_,o_,o_,o_,o_,o_,o_,o_,o_,o_,o_,o_,o_,o_,o_,o_,o_,o_,o_]
def i_ref04_Copy_k0 : List Bool := [o_,i_,i_,i_,i_,o_,o_,o_,o_,o_,o_,o_,o_,o_,o_,o_,o_,o_,o_,o_,o_,o_,o_,o_,o_,o_,o_,o_,o_,o_,o_,o_,o_,o_,o_,o_,o_,o_,o_]
def i_ref04_Copy_j0 : List Bool := [o_,o_,i_,i_,o_,o_,o_,o_,o_,o_,o_,o_,o_,o_,o_,o_,o_,o_,o_,o_,o_,o_,o_,o_,o_,o_,o_,o_,o_,o_,o_,o_,o_,o_,o_,o_,o_,o_,o_]
abbrev s_ref04_Copy_R (t2 : AV) (h : Heap) : St := ⟨[u_,u_,t2, u_,u_,u_,u_,u_,u_,u_,u_,u_,u_,u_,u_,u_,u_,u_,u_,u_,u_,u_,u_,u_,u_,u_,u_,u_,u_,u_,u_,u_,u_,u_,u_,u_,u_,u_,u_], h⟩
abbrev s_ref04_Copy_K0 (t1 t2 t3 t4 : AV) (h : Heap) : St := ⟨[u_,t1, t2, t3, t4, u_,u_,u_,u_,u_,u_,u_,u_,u_,u_,u_,u_,u_,u_,u_,u_,u_,u_,u_,u_,u_,u_,u_,u_,u_,u_,u_,u_,u_,u_,u_,u_,u_,u_], h⟩
def i_ref04_Copy_b0 : IR := (.seq (.seq (.reg [] [⟨(some 20), .mv (.t 4),none,[]⟩,⟨(some 21), .fa 4 (.t 1),none,[]⟩,⟨(some 22), .load false 1 (.t 21),none,[]⟩,⟨(some 23), .len false (.t 22),none,[]⟩,⟨(some 24), .bin .plain .lss (.t 20) (.t 23),none,[]⟩]) (.cond (.t 24) .skip (.exit 0 i_ref04_Copy_j0))) (.seq (.block 1 i_ref04_Copy_j1 (.reg [(1, 7)] [⟨(some 27), .fa 4 (.t 3),none,[]⟩,⟨(some 28), .load false 1 (.t 27),none,[]⟩,⟨(some 29), .fa 4 (.t 1),none,[]⟩,⟨(some 30), .load false 1 (.t 29),none,[]⟩,⟨(some 31), .mv (.t 4),none,[]⟩,⟨(some 32), .ia 5 (.t 30) (.t 31),none,[]⟩,⟨(some 33), .load true 5 (.t 32),none,[]⟩,⟨(some 34), .qcall n_ref04_Copy [(.t 33)] [], none, [33]⟩,⟨(some 35), .litd 5 1 [(.int .i64 0), (.slice none 0 0), (.slice none 0 0), (.slice none 0 0), (.slice none 0 0)] [(0, (.t 34))],none,[]⟩,⟨(some 36), .app 6 ty_api_Tree 5 104 (.t 28) (.t 35),none,[]⟩,⟨(some 37), .fa 4 (.t 3),none,[]⟩,⟨none, .store 1 (.t 37) (.t 36),none,[]⟩])) (.reg [] [⟨(some 25), .mv (.t 4),none,[]⟩,⟨(some 26), .bin .plain .add (.t 25) (.k (.int .i64 1)),none,[]⟩,⟨(some 4), .mv (.t 26),none,[]⟩])))

abbrev s_ref04_Copy_J0 (t2 t3 : AV) (h : Heap) : St := ⟨[u_,u_,t2, t3, u_,u_,u_,u_,u_,u_,u_,u_,u_,u_,u_,u_,u_,u_,u_,u_,u_,u_,u_,u_,u_,u_,u_,u_,u_,u_,u_,u_,u_,u_,u_,u_,u_,u_,u_], h⟩
/-- heartwood/heartwoodref04.Copy -/
def i_ref04_Copy : Ev.Fn := ⟨1, 39, 7, (.seq (.reg [] [⟨(some 1), .box 0 5 (.t 0),none,[]⟩,⟨(some 2), .new 1 [(.int .i64 0), (.slice none 0 0), (.slice none 0 0), (.slice none 0 0), (.slice none 0 0)],none,[]⟩]) (.seq (.reg [(1, 2), (2, 4), (1, 5), (1, 6), (2, 6), (4, 6), (5, 6), (2, 8), (5, 8), (6, 8), (1, 9), (1, 10), (2, 10), (4, 10), (5, 10), (6, 10), (8, 10), (9, 10), (2, 12), (5, 12), (6, 12), (9, 12), (10, 12), (1, 13), (1, 15), (2, 15), (4, 15), (5, 15), (6, 15), (8, 15), (9, 15), (10, 15), (12, 15), (13, 15), (14, 15)] [⟨(some 5), .fa 0 (.t 1),none,[]⟩,⟨(some 6), .load false 1 (.t 5),none,[]⟩,⟨(some 7), .lit 2 ty_uint8 1 0 [(.int .u8 0)] [],none,[]⟩,⟨(some 8), .fa 1 (.t 1),none,[]⟩,⟨(some 9), .load false 1 (.t 8),none,[]⟩,⟨(some 10), .app 2 ty_uint8 1 1 (.t 7) (.t 9),none,[]⟩,⟨(some 11), .lit 3 ty_uint8 1 0 [(.int .u8 0)] [],none,[]⟩,⟨(some 12), .fa 2 (.t 1),none,[]⟩,⟨(some 13), .load false 1 (.t 12),none,[]⟩,⟨(some 14), .app 3 ty_uint8 1 1 (.t 11) (.t 13),none,[]⟩,⟨(some 15), .lit 4 ty_uint8 1 0 [(.int .u8 0)] [],none,[]⟩,⟨(some 16), .fa 3 (.t 1),none,[]⟩,⟨(some 17), .load false 1 (.t 16),none,[]⟩,⟨(some 18), .app 4 ty_uint8 1 1 (.t 15) (.t 17),none,[]⟩,⟨(some 19), .build [(.int .i64 0), (.slice none 0 0), (.slice none 0 0), (.slice none 0 0), (.slice none 0 0)] [(0, 1, (.t 6)), (1, 1, (.t 10)), (2, 1, (.t 14)), (3, 1, (.t 18))], none, [10, 14, 18]⟩,⟨(some 3), .new 5 [(.int .i64 0), (.slice none 0 0), (.slice none 0 0), (.slice none 0 0), (.slice none 0 0)],none,[]⟩,⟨none, .store 5 (.t 3) (.t 19),none,[]⟩]) (.seq (.seq (.reg [] [⟨(some 4), .mv (.k (.int .i64 0)),none,[]⟩]) (.block 0 i_ref04_Copy_j0 (.loop i_ref04_Copy_k0 i_ref04_Copy_b0))) (.seq (.reg [] [⟨(some 38), .load true 5 (.t 3),none,[]⟩,⟨none, .store 5 (.t 2) (.t 38),none,[]⟩]) (.ret i_ref04_Copy_r))))),
 [.cell 2 true 5], [], false, []⟩

def tab (f : Nat) : Option Ev.Fn := match f with
  | 9 => some i_law11_ChunkBack
  | 25 => some i_law11_up
  | 35 => some i_ref05_Grown
  | 56 => some i_ref05_Put
  | 74 => some i_ref05_Node
  | 75 => some i_ref05_level
  | 86 => some i_ref05_tilt
  | 94 => some i_ref04_Depth
  | 87 => some i_ref05_left
  | 88 => some i_ref05_right
  | 27 => some i_chunk_Cut
  | 52 => some i_chunk_width
  | 14 => some i_tree_Digest
  | 24 => some i_tree_Check
  | 50 => some i_tree_deep
  | 72 => some i_tree_deep_1
  | 71 => some i_slices_ContainsFunc_sl_api_Tree_api_Tree
  | 85 => some i_slices_IndexFunc_sl_api_Tree_api_Tree
  | 51 => some i_tree_formed
  | 73 => some i_tree_formed_1
  | 40 => some i_tree_told
  | 61 => some i_digest_None
  | 60 => some i_digest_Of
  | 77 => some i_digest_width
  | 78 => some i_sha_Sum
  | 89 => some i_sha_Tail
  | 90 => some i_sha_Step
  | 95 => some i_sha_Words
  | 97 => some i_math_bits_RotateLeft32
  | 96 => some i_sha_Round
  | 62 => some i_slices_Clone_sl_byte_byte
  | 63 => some i_digest_Value
  | 64 => some i_digest_Pair
  | 80 => some i_coder_Bytes
  | 92 => some i_coder_Number
  | 79 => some i_slices_Concat_sl_byte_byte
  | 91 => some i_slices_Grow_sl_byte_byte
  | 65 => some i_tree_of
  | 66 => some i_digest_Node
  | 38 => some i_tree_Full
  | 59 => some i_tree_full
  | 76 => some i_tree_full_1
  | 53 => some i_chunk_Cut_1
  | 36 => some i_chunk_Join
  | 54 => some i_chunk_cuts
  | 57 => some i_chunk_dark
  | 33 => some i_chunk_Fits
  | 55 => some i_bytes_Equal
  | 58 => some i_chunk_Join_1
  | 29 => some i_chunk_Count
  | 22 => some i_ref04_Same
  | 10 => some i_law11_ChunkRoots
  | 26 => some i_law11_small
  | 39 => some i_ref04_Light
  | 37 => some i_law11_all
  | 11 => some i_law11_ChunkStays
  | 23 => some i_ref04_Copy
  | _ => none
theorem t_law11_ChunkBack : tab n_law11_ChunkBack = some i_law11_ChunkBack := rfl
theorem t_law11_up : tab n_law11_up = some i_law11_up := rfl
theorem t_ref05_Grown : tab n_ref05_Grown = some i_ref05_Grown := rfl
theorem t_ref05_Put : tab n_ref05_Put = some i_ref05_Put := rfl
theorem t_ref05_Node : tab n_ref05_Node = some i_ref05_Node := rfl
theorem t_ref05_level : tab n_ref05_level = some i_ref05_level := rfl
theorem t_ref05_tilt : tab n_ref05_tilt = some i_ref05_tilt := rfl
theorem t_ref04_Depth : tab n_ref04_Depth = some i_ref04_Depth := rfl
theorem t_ref05_left : tab n_ref05_left = some i_ref05_left := rfl
theorem t_ref05_right : tab n_ref05_right = some i_ref05_right := rfl
theorem t_chunk_Cut : tab n_chunk_Cut = some i_chunk_Cut := rfl
theorem t_chunk_width : tab n_chunk_width = some i_chunk_width := rfl
theorem t_tree_Digest : tab n_tree_Digest = some i_tree_Digest := rfl
theorem t_tree_Check : tab n_tree_Check = some i_tree_Check := rfl
theorem t_tree_deep : tab n_tree_deep = some i_tree_deep := rfl
theorem t_tree_deep_1 : tab n_tree_deep_1 = some i_tree_deep_1 := rfl
theorem t_slices_ContainsFunc_sl_api_Tree_api_Tree : tab n_slices_ContainsFunc_sl_api_Tree_api_Tree = some i_slices_ContainsFunc_sl_api_Tree_api_Tree := rfl
theorem t_slices_IndexFunc_sl_api_Tree_api_Tree : tab n_slices_IndexFunc_sl_api_Tree_api_Tree = some i_slices_IndexFunc_sl_api_Tree_api_Tree := rfl
theorem t_tree_formed : tab n_tree_formed = some i_tree_formed := rfl
theorem t_tree_formed_1 : tab n_tree_formed_1 = some i_tree_formed_1 := rfl
theorem t_tree_told : tab n_tree_told = some i_tree_told := rfl
theorem t_digest_None : tab n_digest_None = some i_digest_None := rfl
theorem t_digest_Of : tab n_digest_Of = some i_digest_Of := rfl
theorem t_digest_width : tab n_digest_width = some i_digest_width := rfl
theorem t_sha_Sum : tab n_sha_Sum = some i_sha_Sum := rfl
theorem t_sha_Tail : tab n_sha_Tail = some i_sha_Tail := rfl
theorem t_sha_Step : tab n_sha_Step = some i_sha_Step := rfl
theorem t_sha_Words : tab n_sha_Words = some i_sha_Words := rfl
theorem t_math_bits_RotateLeft32 : tab n_math_bits_RotateLeft32 = some i_math_bits_RotateLeft32 := rfl
theorem t_sha_Round : tab n_sha_Round = some i_sha_Round := rfl
theorem t_slices_Clone_sl_byte_byte : tab n_slices_Clone_sl_byte_byte = some i_slices_Clone_sl_byte_byte := rfl
theorem t_digest_Value : tab n_digest_Value = some i_digest_Value := rfl
theorem t_digest_Pair : tab n_digest_Pair = some i_digest_Pair := rfl
theorem t_coder_Bytes : tab n_coder_Bytes = some i_coder_Bytes := rfl
theorem t_coder_Number : tab n_coder_Number = some i_coder_Number := rfl
theorem t_slices_Concat_sl_byte_byte : tab n_slices_Concat_sl_byte_byte = some i_slices_Concat_sl_byte_byte := rfl
theorem t_slices_Grow_sl_byte_byte : tab n_slices_Grow_sl_byte_byte = some i_slices_Grow_sl_byte_byte := rfl
theorem t_tree_of : tab n_tree_of = some i_tree_of := rfl
theorem t_digest_Node : tab n_digest_Node = some i_digest_Node := rfl
theorem t_tree_Full : tab n_tree_Full = some i_tree_Full := rfl
theorem t_tree_full : tab n_tree_full = some i_tree_full := rfl
theorem t_tree_full_1 : tab n_tree_full_1 = some i_tree_full_1 := rfl
theorem t_chunk_Cut_1 : tab n_chunk_Cut_1 = some i_chunk_Cut_1 := rfl
theorem t_chunk_Join : tab n_chunk_Join = some i_chunk_Join := rfl
theorem t_chunk_cuts : tab n_chunk_cuts = some i_chunk_cuts := rfl
theorem t_chunk_dark : tab n_chunk_dark = some i_chunk_dark := rfl
theorem t_chunk_Fits : tab n_chunk_Fits = some i_chunk_Fits := rfl
theorem t_bytes_Equal : tab n_bytes_Equal = some i_bytes_Equal := rfl
theorem t_chunk_Join_1 : tab n_chunk_Join_1 = some i_chunk_Join_1 := rfl
theorem t_chunk_Count : tab n_chunk_Count = some i_chunk_Count := rfl
theorem t_ref04_Same : tab n_ref04_Same = some i_ref04_Same := rfl
theorem t_law11_ChunkRoots : tab n_law11_ChunkRoots = some i_law11_ChunkRoots := rfl
theorem t_law11_small : tab n_law11_small = some i_law11_small := rfl
theorem t_ref04_Light : tab n_ref04_Light = some i_ref04_Light := rfl
theorem t_law11_all : tab n_law11_all = some i_law11_all := rfl
theorem t_law11_ChunkStays : tab n_law11_ChunkStays = some i_law11_ChunkStays := rfl
theorem t_ref04_Copy : tab n_ref04_Copy = some i_ref04_Copy := rfl
/-- The constants of the rounds, and the words at first. -/
def tabK : List Int := [1116352408, 1899447441, 3049323471, 3921009573, 961987163, 1508970993, 2453635748, 2870763221, 3624381080, 310598401, 607225278, 1426881987, 1925078388, 2162078206, 2614888103, 3248222580, 3835390401, 4022224774, 264347078, 604807628, 770255983, 1249150122, 1555081692, 1996064986, 2554220882, 2821834349, 2952996808, 3210313671, 3336571891, 3584528711, 113926993, 338241895, 666307205, 773529912, 1294757372, 1396182291, 1695183700, 1986661051, 2177026350, 2456956037, 2730485921, 2820302411, 3259730800, 3345764771, 3516065817, 3600352804, 4094571909, 275423344, 430227734, 506948616, 659060556, 883997877, 958139571, 1322822218, 1537002063, 1747873779, 1955562222, 2024104815, 2227730452, 2361852424, 2428436474, 2756734187, 3204031479, 3329325298]
def tabH : List Int := [1779033703, 3144134277, 1013904242, 2773480762, 1359893119, 2600822924, 528734635, 1541459225]
def gK : List C := tabK.map fun n => .sc (.int .u32 n)
def gH : List C := tabH.map fun n => .sc (.int .u32 n)
def G0 : Cf := ⟨fun g => if g = 0 then gH else if g = 1 then gK else [], false⟩
theorem G0_0 : G0.G 0 = gH := rfl
theorem G0_1 : G0.G 1 = gK := rfl
theorem gK_len : gK.length = 64 := rfl
theorem gH_len : gH.length = 8 := rfl
theorem gK_at {i : Nat} (h : i < 64) : (gK.drop i).take 1 = [.sc (.int .u32 (tabK.getD i 0))] := by
  have hl : tabK.length = 64 := rfl
  rw [gK, List.drop_eq_getElem_cons (by rw [List.length_map]; omega)]
  simp only [List.take_succ_cons, List.take_zero, List.getElem_map, List.getD, List.getElem?_eq_getElem (show i < tabK.length by omega), Option.getD_some]
theorem gH_take : gH.take 8 = gH := rfl
attribute [go_sem] G0_0 G0_1 gK_len gH_len gK_at gH_take
@[go_sem] theorem lt_law11_ChunkBack : (n_law11_ChunkBack < 1000000) = True := eq_true (by decide)
@[go_sem] theorem lt_law11_up : (n_law11_up < 1000000) = True := eq_true (by decide)
@[go_sem] theorem lt_ref05_Grown : (n_ref05_Grown < 1000000) = True := eq_true (by decide)
@[go_sem] theorem lt_ref05_Put : (n_ref05_Put < 1000000) = True := eq_true (by decide)
@[go_sem] theorem lt_ref05_Node : (n_ref05_Node < 1000000) = True := eq_true (by decide)
@[go_sem] theorem lt_ref05_level : (n_ref05_level < 1000000) = True := eq_true (by decide)
@[go_sem] theorem lt_ref05_tilt : (n_ref05_tilt < 1000000) = True := eq_true (by decide)
@[go_sem] theorem lt_ref04_Depth : (n_ref04_Depth < 1000000) = True := eq_true (by decide)
@[go_sem] theorem lt_ref05_left : (n_ref05_left < 1000000) = True := eq_true (by decide)
@[go_sem] theorem lt_ref05_right : (n_ref05_right < 1000000) = True := eq_true (by decide)
@[go_sem] theorem lt_chunk_Cut : (n_chunk_Cut < 1000000) = True := eq_true (by decide)
@[go_sem] theorem lt_chunk_width : (n_chunk_width < 1000000) = True := eq_true (by decide)
@[go_sem] theorem lt_tree_Digest : (n_tree_Digest < 1000000) = True := eq_true (by decide)
@[go_sem] theorem lt_tree_Check : (n_tree_Check < 1000000) = True := eq_true (by decide)
@[go_sem] theorem lt_tree_deep : (n_tree_deep < 1000000) = True := eq_true (by decide)
@[go_sem] theorem lt_tree_deep_1 : (n_tree_deep_1 < 1000000) = True := eq_true (by decide)
@[go_sem] theorem lt_slices_ContainsFunc_sl_api_Tree_api_Tree : (n_slices_ContainsFunc_sl_api_Tree_api_Tree < 1000000) = True := eq_true (by decide)
@[go_sem] theorem lt_slices_IndexFunc_sl_api_Tree_api_Tree : (n_slices_IndexFunc_sl_api_Tree_api_Tree < 1000000) = True := eq_true (by decide)
@[go_sem] theorem lt_tree_formed : (n_tree_formed < 1000000) = True := eq_true (by decide)
@[go_sem] theorem lt_tree_formed_1 : (n_tree_formed_1 < 1000000) = True := eq_true (by decide)
@[go_sem] theorem lt_tree_told : (n_tree_told < 1000000) = True := eq_true (by decide)
@[go_sem] theorem lt_digest_None : (n_digest_None < 1000000) = True := eq_true (by decide)
@[go_sem] theorem lt_digest_Of : (n_digest_Of < 1000000) = True := eq_true (by decide)
@[go_sem] theorem lt_digest_width : (n_digest_width < 1000000) = True := eq_true (by decide)
@[go_sem] theorem lt_sha_Sum : (n_sha_Sum < 1000000) = True := eq_true (by decide)
@[go_sem] theorem lt_sha_Tail : (n_sha_Tail < 1000000) = True := eq_true (by decide)
@[go_sem] theorem lt_sha_Step : (n_sha_Step < 1000000) = True := eq_true (by decide)
@[go_sem] theorem lt_sha_Words : (n_sha_Words < 1000000) = True := eq_true (by decide)
@[go_sem] theorem lt_math_bits_RotateLeft32 : (n_math_bits_RotateLeft32 < 1000000) = True := eq_true (by decide)
@[go_sem] theorem lt_sha_Round : (n_sha_Round < 1000000) = True := eq_true (by decide)
@[go_sem] theorem lt_slices_Clone_sl_byte_byte : (n_slices_Clone_sl_byte_byte < 1000000) = True := eq_true (by decide)
@[go_sem] theorem lt_digest_Value : (n_digest_Value < 1000000) = True := eq_true (by decide)
@[go_sem] theorem lt_digest_Pair : (n_digest_Pair < 1000000) = True := eq_true (by decide)
@[go_sem] theorem lt_coder_Bytes : (n_coder_Bytes < 1000000) = True := eq_true (by decide)
@[go_sem] theorem lt_coder_Number : (n_coder_Number < 1000000) = True := eq_true (by decide)
@[go_sem] theorem lt_slices_Concat_sl_byte_byte : (n_slices_Concat_sl_byte_byte < 1000000) = True := eq_true (by decide)
@[go_sem] theorem lt_slices_Grow_sl_byte_byte : (n_slices_Grow_sl_byte_byte < 1000000) = True := eq_true (by decide)
@[go_sem] theorem lt_tree_of : (n_tree_of < 1000000) = True := eq_true (by decide)
@[go_sem] theorem lt_digest_Node : (n_digest_Node < 1000000) = True := eq_true (by decide)
@[go_sem] theorem lt_tree_Full : (n_tree_Full < 1000000) = True := eq_true (by decide)
@[go_sem] theorem lt_tree_full : (n_tree_full < 1000000) = True := eq_true (by decide)
@[go_sem] theorem lt_tree_full_1 : (n_tree_full_1 < 1000000) = True := eq_true (by decide)
@[go_sem] theorem lt_chunk_Cut_1 : (n_chunk_Cut_1 < 1000000) = True := eq_true (by decide)
@[go_sem] theorem lt_chunk_Join : (n_chunk_Join < 1000000) = True := eq_true (by decide)
@[go_sem] theorem lt_chunk_cuts : (n_chunk_cuts < 1000000) = True := eq_true (by decide)
@[go_sem] theorem lt_chunk_dark : (n_chunk_dark < 1000000) = True := eq_true (by decide)
@[go_sem] theorem lt_chunk_Fits : (n_chunk_Fits < 1000000) = True := eq_true (by decide)
@[go_sem] theorem lt_bytes_Equal : (n_bytes_Equal < 1000000) = True := eq_true (by decide)
@[go_sem] theorem lt_chunk_Join_1 : (n_chunk_Join_1 < 1000000) = True := eq_true (by decide)
@[go_sem] theorem lt_chunk_Count : (n_chunk_Count < 1000000) = True := eq_true (by decide)
@[go_sem] theorem lt_ref04_Same : (n_ref04_Same < 1000000) = True := eq_true (by decide)
@[go_sem] theorem lt_law11_ChunkRoots : (n_law11_ChunkRoots < 1000000) = True := eq_true (by decide)
@[go_sem] theorem lt_law11_small : (n_law11_small < 1000000) = True := eq_true (by decide)
@[go_sem] theorem lt_ref04_Light : (n_ref04_Light < 1000000) = True := eq_true (by decide)
@[go_sem] theorem lt_law11_all : (n_law11_all < 1000000) = True := eq_true (by decide)
@[go_sem] theorem lt_law11_ChunkStays : (n_law11_ChunkStays < 1000000) = True := eq_true (by decide)
@[go_sem] theorem lt_ref04_Copy : (n_ref04_Copy < 1000000) = True := eq_true (by decide)
theorem ca_law11_ChunkBack (l : List AV) : cArgs tab n_law11_ChunkBack l = canonA [] l := rfl
attribute [go_sem] t_law11_ChunkBack ca_law11_ChunkBack
theorem ca_law11_up (l : List AV) : cArgs tab n_law11_up l = canonA [] l := rfl
attribute [go_sem] t_law11_up ca_law11_up
theorem ca_ref05_Grown (l : List AV) : cArgs tab n_ref05_Grown l = canonA [] l := rfl
attribute [go_sem] t_ref05_Grown ca_ref05_Grown
theorem ca_ref05_Put (l : List AV) : cArgs tab n_ref05_Put l = canonA [] l := rfl
attribute [go_sem] t_ref05_Put ca_ref05_Put
theorem ca_ref05_Node (l : List AV) : cArgs tab n_ref05_Node l = canonA [] l := rfl
attribute [go_sem] t_ref05_Node ca_ref05_Node
theorem ca_ref05_level (l : List AV) : cArgs tab n_ref05_level l = canonA [] l := rfl
attribute [go_sem] t_ref05_level ca_ref05_level
theorem ca_ref05_tilt (l : List AV) : cArgs tab n_ref05_tilt l = canonA [] l := rfl
attribute [go_sem] t_ref05_tilt ca_ref05_tilt
theorem ca_ref04_Depth (l : List AV) : cArgs tab n_ref04_Depth l = canonA [] l := rfl
attribute [go_sem] t_ref04_Depth ca_ref04_Depth
theorem ca_ref05_left (l : List AV) : cArgs tab n_ref05_left l = canonA [] l := rfl
attribute [go_sem] t_ref05_left ca_ref05_left
theorem ca_ref05_right (l : List AV) : cArgs tab n_ref05_right l = canonA [] l := rfl
attribute [go_sem] t_ref05_right ca_ref05_right
theorem ca_chunk_Cut (l : List AV) : cArgs tab n_chunk_Cut l = canonA [] l := rfl
attribute [go_sem] t_chunk_Cut ca_chunk_Cut
theorem ca_chunk_width (l : List AV) : cArgs tab n_chunk_width l = canonA [] l := rfl
attribute [go_sem] t_chunk_width ca_chunk_width
theorem ca_tree_Digest (l : List AV) : cArgs tab n_tree_Digest l = canonA [] l := rfl
attribute [go_sem] t_tree_Digest ca_tree_Digest
theorem ca_tree_Check (l : List AV) : cArgs tab n_tree_Check l = canonA [] l := rfl
attribute [go_sem] t_tree_Check ca_tree_Check
theorem ca_tree_deep (l : List AV) : cArgs tab n_tree_deep l = canonA [] l := rfl
attribute [go_sem] t_tree_deep ca_tree_deep
theorem ca_tree_deep_1 (l : List AV) : cArgs tab n_tree_deep_1 l = canonA [] l := rfl
attribute [go_sem] t_tree_deep_1 ca_tree_deep_1
theorem ca_slices_ContainsFunc_sl_api_Tree_api_Tree (l : List AV) : cArgs tab n_slices_ContainsFunc_sl_api_Tree_api_Tree l = canonA [] l := rfl
attribute [go_sem] t_slices_ContainsFunc_sl_api_Tree_api_Tree ca_slices_ContainsFunc_sl_api_Tree_api_Tree
theorem ca_slices_IndexFunc_sl_api_Tree_api_Tree (l : List AV) : cArgs tab n_slices_IndexFunc_sl_api_Tree_api_Tree l = canonA [] l := rfl
attribute [go_sem] t_slices_IndexFunc_sl_api_Tree_api_Tree ca_slices_IndexFunc_sl_api_Tree_api_Tree
theorem ca_tree_formed (l : List AV) : cArgs tab n_tree_formed l = canonA [] l := rfl
attribute [go_sem] t_tree_formed ca_tree_formed
theorem ca_tree_formed_1 (l : List AV) : cArgs tab n_tree_formed_1 l = canonA [] l := rfl
attribute [go_sem] t_tree_formed_1 ca_tree_formed_1
theorem ca_tree_told (l : List AV) : cArgs tab n_tree_told l = canonA [] l := rfl
attribute [go_sem] t_tree_told ca_tree_told
theorem ca_digest_None (l : List AV) : cArgs tab n_digest_None l = canonA [] l := rfl
attribute [go_sem] t_digest_None ca_digest_None
theorem ca_digest_Of (l : List AV) : cArgs tab n_digest_Of l = canonA [] l := rfl
attribute [go_sem] t_digest_Of ca_digest_Of
theorem ca_digest_width (l : List AV) : cArgs tab n_digest_width l = canonA [] l := rfl
attribute [go_sem] t_digest_width ca_digest_width
theorem ca_sha_Sum (l : List AV) : cArgs tab n_sha_Sum l = canonA [] l := rfl
attribute [go_sem] t_sha_Sum ca_sha_Sum
theorem ca_sha_Tail (l : List AV) : cArgs tab n_sha_Tail l = canonA [] l := rfl
attribute [go_sem] t_sha_Tail ca_sha_Tail
theorem ca_sha_Step (l : List AV) : cArgs tab n_sha_Step l = canonA [] l := rfl
attribute [go_sem] t_sha_Step ca_sha_Step
theorem ca_sha_Words (l : List AV) : cArgs tab n_sha_Words l = canonA [] l := rfl
attribute [go_sem] t_sha_Words ca_sha_Words
theorem ca_math_bits_RotateLeft32 (l : List AV) : cArgs tab n_math_bits_RotateLeft32 l = canonA [] l := rfl
attribute [go_sem] t_math_bits_RotateLeft32 ca_math_bits_RotateLeft32
theorem ca_sha_Round (l : List AV) : cArgs tab n_sha_Round l = canonA [] l := rfl
attribute [go_sem] t_sha_Round ca_sha_Round
theorem ca_slices_Clone_sl_byte_byte (l : List AV) : cArgs tab n_slices_Clone_sl_byte_byte l = canonA [] l := rfl
attribute [go_sem] t_slices_Clone_sl_byte_byte ca_slices_Clone_sl_byte_byte
theorem ca_digest_Value (l : List AV) : cArgs tab n_digest_Value l = canonA [] l := rfl
attribute [go_sem] t_digest_Value ca_digest_Value
theorem ca_digest_Pair (l : List AV) : cArgs tab n_digest_Pair l = canonA [] l := rfl
attribute [go_sem] t_digest_Pair ca_digest_Pair
theorem ca_coder_Bytes (l : List AV) : cArgs tab n_coder_Bytes l = canonA [] l := rfl
attribute [go_sem] t_coder_Bytes ca_coder_Bytes
theorem ca_coder_Number (l : List AV) : cArgs tab n_coder_Number l = canonA [] l := rfl
attribute [go_sem] t_coder_Number ca_coder_Number
theorem ca_slices_Concat_sl_byte_byte (l : List AV) : cArgs tab n_slices_Concat_sl_byte_byte l = canonA [] l := rfl
attribute [go_sem] t_slices_Concat_sl_byte_byte ca_slices_Concat_sl_byte_byte
theorem ca_slices_Grow_sl_byte_byte (l : List AV) : cArgs tab n_slices_Grow_sl_byte_byte l = canonA [i_,o_] l := rfl
attribute [go_sem] t_slices_Grow_sl_byte_byte ca_slices_Grow_sl_byte_byte
theorem ca_tree_of (l : List AV) : cArgs tab n_tree_of l = canonA [] l := rfl
attribute [go_sem] t_tree_of ca_tree_of
theorem ca_digest_Node (l : List AV) : cArgs tab n_digest_Node l = canonA [] l := rfl
attribute [go_sem] t_digest_Node ca_digest_Node
theorem ca_tree_Full (l : List AV) : cArgs tab n_tree_Full l = canonA [] l := rfl
attribute [go_sem] t_tree_Full ca_tree_Full
theorem ca_tree_full (l : List AV) : cArgs tab n_tree_full l = canonA [] l := rfl
attribute [go_sem] t_tree_full ca_tree_full
theorem ca_tree_full_1 (l : List AV) : cArgs tab n_tree_full_1 l = canonA [] l := rfl
attribute [go_sem] t_tree_full_1 ca_tree_full_1
theorem ca_chunk_Cut_1 (l : List AV) : cArgs tab n_chunk_Cut_1 l = canonA [] l := rfl
attribute [go_sem] t_chunk_Cut_1 ca_chunk_Cut_1
theorem ca_chunk_Join (l : List AV) : cArgs tab n_chunk_Join l = canonA [] l := rfl
attribute [go_sem] t_chunk_Join ca_chunk_Join
theorem ca_chunk_cuts (l : List AV) : cArgs tab n_chunk_cuts l = canonA [] l := rfl
attribute [go_sem] t_chunk_cuts ca_chunk_cuts
theorem ca_chunk_dark (l : List AV) : cArgs tab n_chunk_dark l = canonA [] l := rfl
attribute [go_sem] t_chunk_dark ca_chunk_dark
theorem ca_chunk_Fits (l : List AV) : cArgs tab n_chunk_Fits l = canonA [] l := rfl
attribute [go_sem] t_chunk_Fits ca_chunk_Fits
theorem ca_bytes_Equal (l : List AV) : cArgs tab n_bytes_Equal l = canonA [] l := rfl
attribute [go_sem] t_bytes_Equal ca_bytes_Equal
theorem ca_chunk_Join_1 (l : List AV) : cArgs tab n_chunk_Join_1 l = canonA [] l := rfl
attribute [go_sem] t_chunk_Join_1 ca_chunk_Join_1
theorem ca_chunk_Count (l : List AV) : cArgs tab n_chunk_Count l = canonA [] l := rfl
attribute [go_sem] t_chunk_Count ca_chunk_Count
theorem ca_ref04_Same (l : List AV) : cArgs tab n_ref04_Same l = canonA [] l := rfl
attribute [go_sem] t_ref04_Same ca_ref04_Same
theorem ca_law11_ChunkRoots (l : List AV) : cArgs tab n_law11_ChunkRoots l = canonA [] l := rfl
attribute [go_sem] t_law11_ChunkRoots ca_law11_ChunkRoots
theorem ca_law11_small (l : List AV) : cArgs tab n_law11_small l = canonA [] l := rfl
attribute [go_sem] t_law11_small ca_law11_small
theorem ca_ref04_Light (l : List AV) : cArgs tab n_ref04_Light l = canonA [] l := rfl
attribute [go_sem] t_ref04_Light ca_ref04_Light
theorem ca_law11_all (l : List AV) : cArgs tab n_law11_all l = canonA [] l := rfl
attribute [go_sem] t_law11_all ca_law11_all
theorem ca_law11_ChunkStays (l : List AV) : cArgs tab n_law11_ChunkStays l = canonA [] l := rfl
attribute [go_sem] t_law11_ChunkStays ca_law11_ChunkStays
theorem ca_ref04_Copy (l : List AV) : cArgs tab n_ref04_Copy l = canonA [] l := rfl
attribute [go_sem] t_ref04_Copy ca_ref04_Copy
@[go_sem] theorem kt_law11_ChunkBack_r (l : List AV) : keepT i_law11_ChunkBack_r l = keepT [o_,o_,o_,o_,o_,o_,i_,o_,o_,o_,o_,o_,o_,o_,o_,o_,o_,o_,o_,o_,o_,o_,o_,o_,o_,o_,o_,o_,o_,o_,o_,o_,o_,o_,o_,o_,o_,o_,o_,o_,o_,o_,o_,o_,o_,o_,o_,o_,o_,o_,o_,o_,o_,o_,o_,o_,o_,o_,o_,o_,o_,o_,o_,o_,o_,o_,o_,o_,o_,o_,o_,o_,o_,o_,o_] l := rfl
@[go_sem] theorem kt_law11_ChunkBack_j1 (l : List AV) : keepT i_law11_ChunkBack_j1 l = keepT [i_,o_,o_,o_,o_,o_,o_,i_,i_,i_,i_,o_,i_,o_,o_,o_,o_,o_,o_,o_,o_,o_,o_,o_,o_,o_,o_,o_,o_,o_,o_,o_,o_,o_,o_,o_,o_,o_,o_,o_,o_,o_,o_,o_,o_,o_,o_,o_,o_,o_,o_,o_,o_,o_,o_,o_,o_,o_,o_,o_,o_,o_,o_,o_,o_,o_,o_,o_,o_,o_,o_,o_,o_,o_,o_] l := rfl
@[go_sem] theorem kt_law11_ChunkBack_k0 (l : List AV) : keepT i_law11_ChunkBack_k0 l = keepT [i_,o_,o_,o_,o_,o_,o_,i_,i_,i_,i_,o_,i_,o_,o_,o_,o_,o_,o_,o_,o_,o_,o_,o_,o_,o_,o_,o_,o_,o_,o_,o_,o_,o_,o_,o_,o_,o_,o_,o_,o_,o_,o_,o_,o_,o_,o_,o_,o_,o_,o_,o_,o_,o_,o_,o_,o_,o_,o_,o_,o_,o_,o_,o_,o_,o_,o_,o_,o_,o_,o_,o_,o_,o_,o_] l := rfl
@[go_sem] theorem kt_law11_ChunkBack_j0 (l : List AV) : keepT i_law11_ChunkBack_j0 l = keepT [i_,o_,o_,o_,o_,o_,o_,i_,i_,i_,i_,o_,o_,o_,o_,o_,o_,o_,o_,o_,o_,o_,o_,o_,o_,o_,o_,o_,o_,o_,o_,o_,o_,o_,o_,o_,o_,o_,o_,o_,o_,o_,o_,o_,o_,o_,o_,o_,o_,o_,o_,o_,o_,o_,o_,o_,o_,o_,o_,o_,o_,o_,o_,o_,o_,o_,o_,o_,o_,o_,o_,o_,o_,o_,o_] l := rfl
@[go_sem] theorem kt_law11_up_r (l : List AV) : keepT i_law11_up_r l = keepT [i_,o_,o_,o_,o_,o_,o_,o_,o_,o_,o_,o_,o_,o_,o_,o_,o_,o_,o_,o_,o_,o_,o_,o_,o_,o_,o_,o_,o_,o_,o_,o_,o_,o_,o_,o_,o_,o_,o_,o_,o_,o_,o_,o_,o_] l := rfl
@[go_sem] theorem kt_ref05_Grown_r (l : List AV) : keepT i_ref05_Grown_r l = keepT [o_,o_,i_,o_,o_,o_,o_,o_,o_,o_,o_,o_,o_,o_,o_,o_,o_,o_,o_,o_,o_,o_,o_,o_,o_,o_,o_,o_,o_,o_,o_,o_,o_,o_,o_,o_,o_,o_,o_,o_,o_,o_,o_,o_,o_] l := rfl
@[go_sem] theorem kt_ref05_Grown_j1 (l : List AV) : keepT i_ref05_Grown_j1 l = keepT [i_,o_,i_,i_,i_,o_,o_,o_,o_,o_,o_,o_,o_,o_,o_,o_,o_,o_,o_,o_,o_,o_,o_,o_,o_,o_,o_,o_,o_,o_,o_,o_,o_,o_,o_,o_,o_,o_,o_,o_,o_,o_,o_,o_,o_] l := rfl
@[go_sem] theorem kt_ref05_Grown_k0 (l : List AV) : keepT i_ref05_Grown_k0 l = keepT [i_,o_,i_,i_,i_,o_,o_,o_,o_,o_,o_,o_,o_,o_,o_,o_,o_,o_,o_,o_,o_,o_,o_,o_,o_,o_,o_,o_,o_,o_,o_,o_,o_,o_,o_,o_,o_,o_,o_,o_,o_,o_,o_,o_,o_] l := rfl
@[go_sem] theorem kt_ref05_Grown_j0 (l : List AV) : keepT i_ref05_Grown_j0 l = keepT [o_,o_,i_,i_,o_,o_,o_,o_,o_,o_,o_,o_,o_,o_,o_,o_,o_,o_,o_,o_,o_,o_,o_,o_,o_,o_,o_,o_,o_,o_,o_,o_,o_,o_,o_,o_,o_,o_,o_,o_,o_,o_,o_,o_,o_] l := rfl
@[go_sem] theorem kt_ref05_Put_r (l : List AV) : keepT i_ref05_Put_r l = keepT [o_,o_,o_,o_,o_,o_,i_,o_,o_,o_,o_,o_,o_,o_,o_,o_,o_,o_,o_,o_,o_,o_,o_,o_,o_,o_,o_,o_,o_,o_,o_,o_,o_,o_,o_,o_,o_,o_,o_,o_,o_,o_,o_,o_,o_,o_,o_,o_,o_,o_,o_,o_,o_,o_,o_,o_,o_,o_,o_,o_,o_,o_,o_,o_,o_,o_,o_,o_,o_,o_,o_,o_,o_] l := rfl
@[go_sem] theorem kt_ref05_Node_r (l : List AV) : keepT i_ref05_Node_r l = keepT [o_,o_,o_,o_,o_,o_,o_,o_,i_,o_,o_,o_,o_,o_,o_] l := rfl
@[go_sem] theorem kt_ref05_level_r (l : List AV) : keepT i_ref05_level_r l = keepT [o_,o_,i_,o_,o_,o_,o_,o_,o_,o_,o_,o_,o_,o_,o_,o_,o_,o_,o_,o_,o_,o_,o_,o_,o_,o_,o_,o_,o_,o_,o_,o_,o_,o_,o_,o_,o_,o_,o_,o_,o_,o_,o_,o_,o_,o_,o_,o_,o_,o_,o_,o_,o_,o_,o_] l := rfl
@[go_sem] theorem kt_ref05_tilt_r (l : List AV) : keepT i_ref05_tilt_r l = keepT [o_,o_,i_,o_,o_,o_,o_,o_,o_,o_,o_,o_,o_,o_] l := rfl
@[go_sem] theorem kt_ref04_Depth_r (l : List AV) : keepT i_ref04_Depth_r l = keepT [o_,o_,i_,o_,o_,o_,o_,o_,o_,o_,o_,o_,o_,o_,o_,o_,o_,o_,o_,o_,o_,o_,o_,o_,o_,o_] l := rfl
@[go_sem] theorem kt_ref05_left_r (l : List AV) : keepT i_ref05_left_r l = keepT [o_,o_,i_,o_,o_,o_,o_,o_,o_,o_,o_,o_,o_,o_,o_,o_,o_,o_,o_,o_,o_,o_,o_,o_,o_,o_,o_,o_,o_,o_] l := rfl
@[go_sem] theorem kt_ref05_right_r (l : List AV) : keepT i_ref05_right_r l = keepT [o_,o_,i_,o_,o_,o_,o_,o_,o_,o_,o_,o_,o_,o_,o_,o_,o_,o_,o_,o_,o_,o_,o_,o_,o_,o_,o_,o_,o_,o_] l := rfl
@[go_sem] theorem kt_chunk_Cut_r (l : List AV) : keepT i_chunk_Cut_r l = keepT [o_,o_,o_,o_,o_,o_,i_,i_,i_,o_,o_,o_,o_,o_,o_,o_,o_,o_,o_,o_,o_,o_,o_,o_,o_,o_,o_,o_,o_,o_,o_,o_,o_,o_,o_,o_,o_,o_,o_,o_,o_,o_,o_,o_,o_,o_,o_,o_,o_] l := rfl
@[go_sem] theorem kt_chunk_width_r (l : List AV) : keepT i_chunk_width_r l = keepT [o_,o_,i_,o_,o_,o_,o_,o_,o_] l := rfl
@[go_sem] theorem kt_tree_Digest_r (l : List AV) : keepT i_tree_Digest_r l = keepT [o_,o_,o_,o_,i_,i_,o_,o_,o_,o_,o_,o_,o_,o_,o_,o_,o_,o_,o_,o_,o_,o_,o_,o_] l := rfl
@[go_sem] theorem kt_tree_Check_r (l : List AV) : keepT i_tree_Check_r l = keepT [o_,o_,i_,o_,o_,o_,o_,o_,o_,o_,o_,o_] l := rfl
@[go_sem] theorem kt_tree_Check_j0 (l : List AV) : keepT i_tree_Check_j0 l = keepT [o_,o_,o_,o_,o_,o_,o_,o_,o_,o_,o_,o_] l := rfl
@[go_sem] theorem kt_tree_deep_r (l : List AV) : keepT i_tree_deep_r l = keepT [o_,o_,o_,o_,i_,o_,o_,o_,o_,o_,o_,o_,o_,o_,o_,o_,o_,o_,o_,o_,o_,o_,o_,o_,o_,o_,o_,o_,o_] l := rfl
@[go_sem] theorem kt_tree_deep_1_r (l : List AV) : keepT i_tree_deep_1_r l = keepT [o_,o_,o_,i_,o_,o_,o_,o_] l := rfl
@[go_sem] theorem kt_slices_ContainsFunc_sl_api_Tree_api_Tree_r (l : List AV) : keepT i_slices_ContainsFunc_sl_api_Tree_api_Tree_r l = keepT [o_,o_,o_,o_,i_,o_,o_,o_,o_] l := rfl
@[go_sem] theorem kt_slices_IndexFunc_sl_api_Tree_api_Tree_r (l : List AV) : keepT i_slices_IndexFunc_sl_api_Tree_api_Tree_r l = keepT [o_,o_,o_,o_,i_,o_,o_,o_,o_,o_,o_,o_,o_,o_,o_,o_,o_,o_,o_] l := rfl
@[go_sem] theorem kt_slices_IndexFunc_sl_api_Tree_api_Tree_j1 (l : List AV) : keepT i_slices_IndexFunc_sl_api_Tree_api_Tree_j1 l = keepT [i_,i_,o_,o_,o_,o_,o_,i_,i_,o_,o_,o_,o_,o_,o_,o_,o_,o_,o_] l := rfl
@[go_sem] theorem kt_slices_IndexFunc_sl_api_Tree_api_Tree_k0 (l : List AV) : keepT i_slices_IndexFunc_sl_api_Tree_api_Tree_k0 l = keepT [i_,i_,o_,o_,o_,o_,o_,i_,i_,o_,o_,o_,o_,o_,o_,o_,o_,o_,o_] l := rfl
@[go_sem] theorem kt_slices_IndexFunc_sl_api_Tree_api_Tree_j0 (l : List AV) : keepT i_slices_IndexFunc_sl_api_Tree_api_Tree_j0 l = keepT [o_,o_,o_,o_,o_,o_,o_,o_,o_,o_,o_,o_,o_,o_,o_,o_,o_,o_,o_] l := rfl
@[go_sem] theorem kt_tree_formed_r (l : List AV) : keepT i_tree_formed_r l = keepT [o_,o_,i_,o_,o_,o_,o_,o_,o_,o_,o_,o_,o_,o_,o_,o_,o_,o_,o_,o_,o_,o_,o_,o_,o_,o_,o_,o_,o_,o_,o_,o_,o_,o_,o_,o_,o_,o_,o_,o_,o_,o_,o_,o_,o_,o_,o_,o_,o_,o_,o_,o_,o_,o_,o_,o_,o_,o_,o_,o_,o_,o_,o_,o_,o_,o_,o_,o_,o_,o_,o_,o_,o_,o_,o_,o_,o_,o_,o_,o_,o_,o_,o_,o_,o_,o_,o_] l := rfl
@[go_sem] theorem kt_tree_formed_j0 (l : List AV) : keepT i_tree_formed_j0 l = keepT [o_,i_,o_,i_,o_,o_,o_,o_,o_,o_,o_,o_,o_,o_,o_,o_,o_,o_,o_,o_,o_,o_,o_,o_,o_,o_,o_,o_,o_,o_,o_,o_,o_,o_,o_,o_,o_,o_,o_,o_,o_,o_,o_,o_,o_,o_,o_,o_,o_,o_,o_,o_,o_,o_,o_,o_,o_,o_,o_,o_,o_,o_,o_,o_,o_,o_,o_,o_,o_,o_,o_,o_,o_,o_,o_,o_,o_,o_,o_,o_,o_,o_,o_,o_,o_,o_,o_] l := rfl
@[go_sem] theorem kt_tree_formed_1_r (l : List AV) : keepT i_tree_formed_1_r l = keepT [o_,o_,i_,o_,o_,o_] l := rfl
@[go_sem] theorem kt_tree_told_r (l : List AV) : keepT i_tree_told_r l = keepT [o_,o_,o_,o_,i_,i_,o_,o_,o_,o_,o_,o_,o_,o_,o_,o_,o_,o_,o_,o_,o_,o_,o_,o_,o_,o_,o_,o_,o_,o_,o_,o_,o_,o_,o_,o_,o_,o_,o_,o_,o_,o_,o_,o_,o_,o_,o_,o_,o_,o_,o_,o_,o_,o_,o_,o_,o_,o_,o_,o_,o_,o_,o_,o_,o_,o_,o_,o_,o_,o_,o_,o_,o_,o_,o_,o_,o_,o_,o_,o_,o_,o_,o_,o_,o_,o_,o_,o_,o_,o_,o_,o_,o_,o_,o_,o_,o_,o_,o_,o_,o_,o_,o_,o_,o_] l := rfl
@[go_sem] theorem kt_tree_told_j0 (l : List AV) : keepT i_tree_told_j0 l = keepT [i_,o_,o_,i_,o_,o_,o_,o_,o_,o_,o_,o_,o_,o_,o_,o_,o_,o_,o_,o_,o_,o_,o_,o_,o_,o_,o_,o_,o_,o_,o_,o_,o_,o_,o_,o_,o_,o_,o_,o_,o_,o_,o_,o_,o_,o_,o_,o_,o_,o_,o_,o_,o_,o_,o_,o_,o_,o_,o_,o_,o_,o_,o_,o_,o_,o_,o_,o_,o_,o_,o_,o_,o_,o_,o_,o_,o_,o_,o_,o_,o_,o_,o_,o_,o_,o_,o_,o_,o_,o_,o_,o_,o_,o_,o_,o_,o_,o_,o_,o_,o_,o_,o_,o_,o_] l := rfl
@[go_sem] theorem kt_digest_None_r (l : List AV) : keepT i_digest_None_r l = keepT [i_,o_] l := rfl
@[go_sem] theorem kt_digest_Of_r (l : List AV) : keepT i_digest_Of_r l = keepT [o_,o_,o_,o_,i_,i_,o_,o_,o_,o_,o_,o_,o_,o_,o_] l := rfl
@[go_sem] theorem kt_digest_width_r (l : List AV) : keepT i_digest_width_r l = keepT [o_,o_,i_,o_,o_,o_,o_,o_,o_] l := rfl
@[go_sem] theorem kt_sha_Sum_r (l : List AV) : keepT i_sha_Sum_r l = keepT [o_,o_,i_,o_,o_,o_,o_,o_,o_,o_,o_,o_,o_,o_,o_,o_,o_,o_,o_,o_,o_,o_,o_,o_,o_,o_,o_,o_,o_,o_,o_,o_,o_,o_,o_,o_,o_,o_,o_,o_,o_,o_,o_,o_,o_,o_,o_,o_,o_,o_,o_,o_,o_,o_,o_,o_,o_,o_,o_,o_,o_,o_,o_,o_,o_,o_,o_,o_,o_,o_,o_,o_,o_,o_,o_,o_] l := rfl
@[go_sem] theorem kt_sha_Sum_j3 (l : List AV) : keepT i_sha_Sum_j3 l = keepT [o_,o_,o_,o_,o_,o_,o_,i_,o_,i_,o_,o_,o_,o_,o_,o_,o_,o_,o_,o_,o_,o_,o_,o_,o_,o_,o_,o_,o_,o_,o_,o_,o_,o_,o_,o_,o_,i_,i_,o_,o_,o_,o_,o_,o_,o_,o_,o_,o_,o_,o_,o_,o_,o_,o_,o_,o_,o_,o_,o_,o_,o_,o_,o_,o_,o_,o_,o_,o_,o_,o_,o_,o_,o_,o_,o_] l := rfl
@[go_sem] theorem kt_sha_Sum_k1 (l : List AV) : keepT i_sha_Sum_k1 l = keepT [o_,o_,o_,o_,o_,o_,o_,i_,o_,i_,o_,o_,o_,o_,o_,o_,o_,o_,o_,o_,o_,o_,o_,o_,o_,o_,o_,o_,o_,o_,o_,o_,o_,o_,o_,o_,o_,i_,i_,o_,o_,o_,o_,o_,o_,o_,o_,o_,o_,o_,o_,o_,o_,o_,o_,o_,o_,o_,o_,o_,o_,o_,o_,o_,o_,o_,o_,o_,o_,o_,o_,o_,o_,o_,o_,o_] l := rfl
@[go_sem] theorem kt_sha_Sum_j2 (l : List AV) : keepT i_sha_Sum_j2 l = keepT [o_,o_,o_,o_,o_,o_,o_,i_,o_,o_,o_,o_,o_,o_,o_,o_,o_,o_,o_,o_,o_,o_,o_,o_,o_,o_,o_,o_,o_,o_,o_,o_,o_,o_,o_,o_,o_,i_,i_,o_,o_,o_,o_,o_,o_,o_,o_,o_,o_,o_,o_,o_,o_,o_,o_,o_,o_,o_,o_,o_,o_,o_,o_,o_,o_,o_,o_,o_,o_,o_,o_,o_,o_,o_,o_,o_] l := rfl
@[go_sem] theorem kt_sha_Sum_j1 (l : List AV) : keepT i_sha_Sum_j1 l = keepT [o_,o_,o_,o_,o_,o_,o_,i_,o_,o_,o_,o_,o_,o_,o_,o_,o_,o_,o_,o_,o_,o_,o_,o_,o_,o_,o_,o_,o_,o_,o_,o_,o_,o_,o_,o_,o_,i_,i_,o_,o_,o_,o_,o_,o_,o_,o_,o_,o_,o_,o_,o_,o_,o_,o_,o_,o_,o_,o_,o_,o_,o_,o_,o_,o_,o_,o_,o_,o_,o_,o_,o_,o_,o_,o_,o_] l := rfl
@[go_sem] theorem kt_sha_Sum_k0 (l : List AV) : keepT i_sha_Sum_k0 l = keepT [o_,o_,o_,o_,o_,o_,o_,i_,o_,o_,o_,o_,o_,o_,o_,o_,o_,o_,o_,o_,o_,o_,o_,o_,o_,o_,o_,o_,o_,o_,o_,o_,o_,o_,o_,o_,o_,i_,i_,o_,o_,o_,o_,o_,o_,o_,o_,o_,o_,o_,o_,o_,o_,o_,o_,o_,o_,o_,o_,o_,o_,o_,o_,o_,o_,o_,o_,o_,o_,o_,o_,o_,o_,o_,o_,o_] l := rfl
@[go_sem] theorem kt_sha_Sum_j0 (l : List AV) : keepT i_sha_Sum_j0 l = keepT [o_,o_,o_,o_,o_,o_,o_,i_,o_,o_,o_,o_,o_,o_,o_,o_,o_,o_,o_,o_,o_,o_,o_,o_,o_,o_,o_,o_,o_,o_,o_,o_,o_,o_,o_,o_,o_,o_,o_,o_,o_,o_,o_,o_,o_,o_,o_,o_,o_,o_,o_,o_,o_,o_,o_,o_,o_,o_,o_,o_,o_,o_,o_,o_,o_,o_,o_,o_,o_,o_,o_,o_,o_,o_,o_,o_] l := rfl
@[go_sem] theorem kt_sha_Sum_j5 (l : List AV) : keepT i_sha_Sum_j5 l = keepT [o_,o_,o_,o_,o_,o_,o_,o_,o_,o_,i_,o_,o_,o_,o_,o_,o_,o_,o_,o_,o_,o_,o_,o_,o_,o_,o_,o_,o_,o_,o_,o_,o_,o_,o_,o_,o_,o_,o_,o_,o_,o_,o_,o_,o_,o_,o_,o_,o_,o_,o_,o_,o_,o_,o_,o_,i_,i_,o_,o_,o_,o_,o_,o_,o_,o_,o_,o_,o_,o_,o_,o_,o_,o_,o_,o_] l := rfl
@[go_sem] theorem kt_sha_Sum_k2 (l : List AV) : keepT i_sha_Sum_k2 l = keepT [o_,o_,o_,o_,o_,o_,o_,o_,o_,o_,i_,o_,o_,o_,o_,o_,o_,o_,o_,o_,o_,o_,o_,o_,o_,o_,o_,o_,o_,o_,o_,o_,o_,o_,o_,o_,o_,o_,o_,o_,o_,o_,o_,o_,o_,o_,o_,o_,o_,o_,o_,o_,o_,o_,o_,o_,i_,i_,o_,o_,o_,o_,o_,o_,o_,o_,o_,o_,o_,o_,o_,o_,o_,o_,o_,o_] l := rfl
@[go_sem] theorem kt_sha_Sum_j4 (l : List AV) : keepT i_sha_Sum_j4 l = keepT [o_,o_,o_,o_,o_,o_,o_,o_,o_,o_,i_,o_,o_,o_,o_,o_,o_,o_,o_,o_,o_,o_,o_,o_,o_,o_,o_,o_,o_,o_,o_,o_,o_,o_,o_,o_,o_,o_,o_,o_,o_,o_,o_,o_,o_,o_,o_,o_,o_,o_,o_,o_,o_,o_,o_,o_,o_,o_,o_,o_,o_,o_,o_,o_,o_,o_,o_,o_,o_,o_,o_,o_,o_,o_,o_,o_] l := rfl
@[go_sem] theorem kt_sha_Tail_r (l : List AV) : keepT i_sha_Tail_r l = keepT [o_,o_,i_,i_,o_,o_,o_,o_,o_,o_,o_,o_,o_,o_,o_,o_,o_,o_,o_,o_,o_,o_,o_,o_,o_,o_,o_,o_,o_,o_,o_,o_,o_,o_,o_,o_,o_] l := rfl
@[go_sem] theorem kt_sha_Tail_j1 (l : List AV) : keepT i_sha_Tail_j1 l = keepT [i_,o_,o_,o_,i_,o_,o_,o_,o_,o_,o_,o_,o_,o_,o_,o_,o_,o_,o_,o_,o_,o_,o_,o_,o_,o_,o_,o_,o_,o_,o_,o_,o_,o_,o_,o_,o_] l := rfl
@[go_sem] theorem kt_sha_Tail_k0 (l : List AV) : keepT i_sha_Tail_k0 l = keepT [i_,o_,o_,o_,i_,o_,o_,o_,o_,o_,o_,o_,o_,o_,o_,o_,o_,o_,o_,o_,o_,o_,o_,o_,o_,o_,o_,o_,o_,o_,o_,o_,o_,o_,o_,o_,o_] l := rfl
@[go_sem] theorem kt_sha_Tail_j0 (l : List AV) : keepT i_sha_Tail_j0 l = keepT [i_,o_,o_,o_,i_,o_,o_,o_,o_,o_,o_,o_,o_,o_,o_,o_,o_,o_,o_,o_,o_,o_,o_,o_,o_,o_,o_,o_,o_,o_,o_,o_,o_,o_,o_,o_,o_] l := rfl
@[go_sem] theorem kt_sha_Tail_j3 (l : List AV) : keepT i_sha_Tail_j3 l = keepT [i_,o_,o_,o_,i_,i_,o_,o_,o_,o_,o_,o_,o_,o_,o_,o_,o_,o_,o_,o_,o_,o_,o_,o_,o_,o_,o_,o_,o_,o_,o_,o_,o_,o_,o_,o_,o_] l := rfl
@[go_sem] theorem kt_sha_Tail_k1 (l : List AV) : keepT i_sha_Tail_k1 l = keepT [i_,o_,o_,o_,i_,i_,o_,o_,o_,o_,o_,o_,o_,o_,o_,o_,o_,o_,o_,o_,o_,o_,o_,o_,o_,o_,o_,o_,o_,o_,o_,o_,o_,o_,o_,o_,o_] l := rfl
@[go_sem] theorem kt_sha_Tail_j2 (l : List AV) : keepT i_sha_Tail_j2 l = keepT [o_,o_,o_,o_,i_,o_,o_,o_,o_,o_,o_,o_,o_,o_,o_,o_,o_,o_,o_,o_,o_,o_,o_,o_,o_,o_,o_,o_,o_,o_,o_,o_,o_,o_,o_,o_,o_] l := rfl
@[go_sem] theorem kt_sha_Step_r (l : List AV) : keepT i_sha_Step_r l = keepT [o_,o_,o_,o_,i_,i_,o_,o_,o_,o_,o_,o_,o_,o_,o_,o_,o_,o_,o_,o_,o_,o_,o_,o_,o_,o_,o_,o_,o_,o_,o_,o_,o_,o_,o_,o_,o_,o_,o_,o_,o_,o_,o_,o_,o_,o_,o_,o_,o_] l := rfl
@[go_sem] theorem kt_sha_Step_j1 (l : List AV) : keepT i_sha_Step_j1 l = keepT [o_,o_,i_,o_,i_,o_,o_,o_,i_,o_,o_,o_,o_,o_,o_,o_,o_,o_,o_,o_,o_,o_,i_,i_,i_,o_,o_,o_,o_,o_,o_,o_,o_,o_,o_,o_,o_,o_,o_,o_,o_,o_,o_,o_,o_,o_,o_,o_,o_] l := rfl
@[go_sem] theorem kt_sha_Step_k0 (l : List AV) : keepT i_sha_Step_k0 l = keepT [o_,o_,i_,o_,i_,o_,o_,o_,i_,o_,o_,o_,o_,o_,o_,o_,o_,o_,o_,o_,o_,o_,i_,i_,i_,o_,o_,o_,o_,o_,o_,o_,o_,o_,o_,o_,o_,o_,o_,o_,o_,o_,o_,o_,o_,o_,o_,o_,o_] l := rfl
@[go_sem] theorem kt_sha_Step_j0 (l : List AV) : keepT i_sha_Step_j0 l = keepT [o_,o_,i_,o_,i_,o_,o_,o_,i_,o_,o_,o_,o_,o_,o_,o_,o_,o_,o_,o_,o_,o_,o_,o_,o_,o_,o_,o_,o_,o_,o_,o_,o_,o_,o_,o_,o_,o_,o_,o_,o_,o_,o_,o_,o_,o_,o_,o_,o_] l := rfl
@[go_sem] theorem kt_sha_Step_j3 (l : List AV) : keepT i_sha_Step_j3 l = keepT [o_,o_,i_,o_,i_,o_,o_,o_,i_,o_,o_,o_,o_,o_,o_,o_,o_,o_,o_,o_,o_,o_,o_,o_,o_,o_,o_,o_,o_,o_,o_,o_,o_,o_,o_,o_,i_,o_,o_,o_,o_,o_,o_,o_,o_,o_,o_,o_,o_] l := rfl
@[go_sem] theorem kt_sha_Step_k1 (l : List AV) : keepT i_sha_Step_k1 l = keepT [o_,o_,i_,o_,i_,o_,o_,o_,i_,o_,o_,o_,o_,o_,o_,o_,o_,o_,o_,o_,o_,o_,o_,o_,o_,o_,o_,o_,o_,o_,o_,o_,o_,o_,o_,o_,i_,o_,o_,o_,o_,o_,o_,o_,o_,o_,o_,o_,o_] l := rfl
@[go_sem] theorem kt_sha_Step_j2 (l : List AV) : keepT i_sha_Step_j2 l = keepT [o_,o_,i_,o_,i_,o_,o_,o_,o_,o_,o_,o_,o_,o_,o_,o_,o_,o_,o_,o_,o_,o_,o_,o_,o_,o_,o_,o_,o_,o_,o_,o_,o_,o_,o_,o_,o_,o_,o_,o_,o_,o_,o_,o_,o_,o_,o_,o_,o_] l := rfl
@[go_sem] theorem kt_sha_Words_r (l : List AV) : keepT i_sha_Words_r l = keepT [o_,o_,i_,i_,o_,o_,o_,o_,o_,o_,o_,o_,o_,o_,o_,o_,o_,o_,o_,o_,o_,o_,o_,o_,o_,o_,o_,o_,o_,o_,o_,o_,o_,o_,o_,o_,o_,o_,o_,o_,o_,o_,o_,o_,o_,o_,o_,o_,o_,o_,o_,o_,o_,o_,o_,o_,o_,o_,o_,o_,o_,o_,o_,o_,o_,o_,o_,o_,o_,o_,o_,o_,o_,o_,o_,o_,o_,o_,o_,o_,o_,o_,o_,o_,o_,o_,o_] l := rfl
@[go_sem] theorem kt_sha_Words_j1 (l : List AV) : keepT i_sha_Words_j1 l = keepT [o_,o_,o_,o_,i_,o_,o_,o_,o_,o_,o_,o_,o_,o_,o_,o_,o_,i_,i_,i_,o_,o_,o_,o_,o_,o_,o_,o_,o_,o_,o_,o_,o_,o_,o_,o_,o_,o_,o_,o_,o_,o_,o_,o_,o_,o_,o_,o_,o_,o_,o_,o_,o_,o_,o_,o_,o_,o_,o_,o_,o_,o_,o_,o_,o_,o_,o_,o_,o_,o_,o_,o_,o_,o_,o_,o_,o_,o_,o_,o_,o_,o_,o_,o_,o_,o_,o_] l := rfl
@[go_sem] theorem kt_sha_Words_k0 (l : List AV) : keepT i_sha_Words_k0 l = keepT [o_,o_,o_,o_,i_,o_,o_,o_,o_,o_,o_,o_,o_,o_,o_,o_,o_,i_,i_,i_,o_,o_,o_,o_,o_,o_,o_,o_,o_,o_,o_,o_,o_,o_,o_,o_,o_,o_,o_,o_,o_,o_,o_,o_,o_,o_,o_,o_,o_,o_,o_,o_,o_,o_,o_,o_,o_,o_,o_,o_,o_,o_,o_,o_,o_,o_,o_,o_,o_,o_,o_,o_,o_,o_,o_,o_,o_,o_,o_,o_,o_,o_,o_,o_,o_,o_,o_] l := rfl
@[go_sem] theorem kt_sha_Words_j0 (l : List AV) : keepT i_sha_Words_j0 l = keepT [o_,o_,o_,o_,i_,o_,o_,o_,o_,o_,o_,o_,o_,o_,o_,o_,o_,o_,o_,o_,o_,o_,o_,o_,o_,o_,o_,o_,o_,o_,o_,o_,o_,o_,o_,o_,o_,o_,o_,o_,o_,o_,o_,o_,o_,o_,o_,o_,o_,o_,o_,o_,o_,o_,o_,o_,o_,o_,o_,o_,o_,o_,o_,o_,o_,o_,o_,o_,o_,o_,o_,o_,o_,o_,o_,o_,o_,o_,o_,o_,o_,o_,o_,o_,o_,o_,o_] l := rfl
@[go_sem] theorem kt_sha_Words_j3 (l : List AV) : keepT i_sha_Words_j3 l = keepT [o_,o_,o_,o_,i_,o_,o_,i_,o_,o_,o_,o_,o_,o_,o_,o_,o_,o_,o_,o_,o_,o_,o_,o_,o_,o_,o_,o_,o_,o_,o_,o_,o_,o_,o_,o_,o_,o_,o_,o_,o_,o_,o_,o_,o_,o_,o_,o_,o_,o_,o_,o_,o_,o_,o_,o_,o_,o_,o_,o_,o_,o_,o_,o_,o_,o_,o_,o_,o_,o_,o_,o_,o_,o_,o_,o_,o_,o_,o_,o_,o_,o_,o_,o_,o_,o_,o_] l := rfl
@[go_sem] theorem kt_sha_Words_k1 (l : List AV) : keepT i_sha_Words_k1 l = keepT [o_,o_,o_,o_,i_,o_,o_,i_,o_,o_,o_,o_,o_,o_,o_,o_,o_,o_,o_,o_,o_,o_,o_,o_,o_,o_,o_,o_,o_,o_,o_,o_,o_,o_,o_,o_,o_,o_,o_,o_,o_,o_,o_,o_,o_,o_,o_,o_,o_,o_,o_,o_,o_,o_,o_,o_,o_,o_,o_,o_,o_,o_,o_,o_,o_,o_,o_,o_,o_,o_,o_,o_,o_,o_,o_,o_,o_,o_,o_,o_,o_,o_,o_,o_,o_,o_,o_] l := rfl
@[go_sem] theorem kt_sha_Words_j2 (l : List AV) : keepT i_sha_Words_j2 l = keepT [o_,o_,o_,o_,i_,o_,o_,o_,o_,o_,o_,o_,o_,o_,o_,o_,o_,o_,o_,o_,o_,o_,o_,o_,o_,o_,o_,o_,o_,o_,o_,o_,o_,o_,o_,o_,o_,o_,o_,o_,o_,o_,o_,o_,o_,o_,o_,o_,o_,o_,o_,o_,o_,o_,o_,o_,o_,o_,o_,o_,o_,o_,o_,o_,o_,o_,o_,o_,o_,o_,o_,o_,o_,o_,o_,o_,o_,o_,o_,o_,o_,o_,o_,o_,o_,o_,o_] l := rfl
@[go_sem] theorem kt_math_bits_RotateLeft32_r (l : List AV) : keepT i_math_bits_RotateLeft32_r l = keepT [o_,o_,o_,o_,i_,o_,o_,o_,o_,o_,o_,o_,o_,o_,o_,o_,o_] l := rfl
@[go_sem] theorem kt_sha_Round_r (l : List AV) : keepT i_sha_Round_r l = keepT [o_,o_,o_,o_,o_,o_,i_,o_,o_,o_,o_,o_,o_,o_,o_,o_,o_,o_,o_,o_,o_,o_,o_,o_,o_,o_,o_,o_,o_,o_,o_,o_,o_,o_,o_,o_,o_,o_,o_,o_,o_,o_,o_,o_,o_,o_,o_,o_,o_,o_,o_,o_,o_,o_,o_,o_,o_,o_,o_,o_,o_,o_,o_,o_,o_,o_,o_,o_,o_,o_,o_,o_,o_,o_,o_,o_,o_,o_,o_,o_,o_,o_,o_,o_,o_] l := rfl
@[go_sem] theorem kt_slices_Clone_sl_byte_byte_r (l : List AV) : keepT i_slices_Clone_sl_byte_byte_r l = keepT [o_,o_,i_,o_,o_,o_,o_,o_] l := rfl
@[go_sem] theorem kt_digest_Value_r (l : List AV) : keepT i_digest_Value_r l = keepT [o_,o_,i_,o_,o_,o_] l := rfl
@[go_sem] theorem kt_digest_Pair_r (l : List AV) : keepT i_digest_Pair_r l = keepT [o_,o_,o_,o_,o_,o_,i_,i_,o_,o_,o_,o_,o_,o_,o_,o_,o_,o_,o_,o_,o_,o_,o_,o_] l := rfl
@[go_sem] theorem kt_coder_Bytes_r (l : List AV) : keepT i_coder_Bytes_r l = keepT [o_,o_,i_,o_,o_,o_,o_,o_,o_] l := rfl
@[go_sem] theorem kt_coder_Number_r (l : List AV) : keepT i_coder_Number_r l = keepT [o_,o_,i_,o_,o_,o_,o_,o_,o_,o_,o_,o_,o_,o_,o_,o_,o_,o_,o_,o_,o_,o_,o_,o_,o_,o_,o_,o_,o_,o_,o_,o_,o_,o_,o_,o_,o_,o_,o_,o_,o_,o_,o_] l := rfl
@[go_sem] theorem kt_coder_Number_j1 (l : List AV) : keepT i_coder_Number_j1 l = keepT [i_,o_,o_,i_,o_,o_,o_,o_,o_,o_,o_,o_,o_,o_,o_,o_,o_,o_,o_,o_,o_,o_,o_,o_,o_,o_,o_,o_,o_,o_,o_,o_,o_,o_,o_,o_,o_,o_,o_,o_,o_,o_,o_] l := rfl
@[go_sem] theorem kt_coder_Number_k0 (l : List AV) : keepT i_coder_Number_k0 l = keepT [i_,o_,o_,i_,o_,o_,o_,o_,o_,o_,o_,o_,o_,o_,o_,o_,o_,o_,o_,o_,o_,o_,o_,o_,o_,o_,o_,o_,o_,o_,o_,o_,o_,o_,o_,o_,o_,o_,o_,o_,o_,o_,o_] l := rfl
@[go_sem] theorem kt_coder_Number_j0 (l : List AV) : keepT i_coder_Number_j0 l = keepT [i_,o_,o_,i_,o_,o_,o_,o_,o_,o_,o_,o_,o_,o_,o_,o_,o_,o_,o_,o_,o_,o_,o_,o_,o_,o_,o_,o_,o_,o_,o_,o_,o_,o_,o_,o_,o_,o_,o_,o_,o_,o_,o_] l := rfl
@[go_sem] theorem kt_coder_Number_j3 (l : List AV) : keepT i_coder_Number_j3 l = keepT [i_,o_,o_,i_,i_,o_,o_,o_,o_,o_,o_,o_,o_,o_,o_,o_,o_,o_,o_,o_,o_,o_,o_,o_,o_,o_,i_,i_,o_,o_,o_,o_,o_,o_,o_,o_,o_,o_,o_,o_,o_,o_,o_] l := rfl
@[go_sem] theorem kt_coder_Number_k1 (l : List AV) : keepT i_coder_Number_k1 l = keepT [i_,o_,o_,i_,i_,o_,o_,o_,o_,o_,o_,o_,o_,o_,o_,o_,o_,o_,o_,o_,o_,o_,o_,o_,o_,o_,i_,i_,o_,o_,o_,o_,o_,o_,o_,o_,o_,o_,o_,o_,o_,o_,o_] l := rfl
@[go_sem] theorem kt_coder_Number_j2 (l : List AV) : keepT i_coder_Number_j2 l = keepT [o_,o_,o_,o_,i_,o_,o_,o_,o_,o_,o_,o_,o_,o_,o_,o_,o_,o_,o_,o_,o_,o_,o_,o_,o_,o_,o_,o_,o_,o_,o_,o_,o_,o_,o_,o_,o_,o_,o_,o_,o_,o_,o_] l := rfl
@[go_sem] theorem kt_slices_Concat_sl_byte_byte_r (l : List AV) : keepT i_slices_Concat_sl_byte_byte_r l = keepT [o_,o_,i_,o_,o_,o_,o_,o_,o_,o_,o_,o_,o_,o_,o_,o_,o_,o_,o_,o_,o_,o_,o_,o_,o_,o_,o_,o_,o_,o_,o_,o_,o_,o_,o_,o_] l := rfl
@[go_sem] theorem kt_slices_Concat_sl_byte_byte_j1 (l : List AV) : keepT i_slices_Concat_sl_byte_byte_j1 l = keepT [i_,o_,o_,i_,o_,o_,o_,o_,o_,i_,i_,i_,o_,o_,o_,o_,o_,o_,o_,o_,o_,o_,o_,o_,o_,o_,o_,o_,o_,o_,o_,o_,o_,o_,o_,o_] l := rfl
@[go_sem] theorem kt_slices_Concat_sl_byte_byte_k0 (l : List AV) : keepT i_slices_Concat_sl_byte_byte_k0 l = keepT [i_,o_,o_,i_,o_,o_,o_,o_,o_,i_,i_,i_,o_,o_,o_,o_,o_,o_,o_,o_,o_,o_,o_,o_,o_,o_,o_,o_,o_,o_,o_,o_,o_,o_,o_,o_] l := rfl
@[go_sem] theorem kt_slices_Concat_sl_byte_byte_j0 (l : List AV) : keepT i_slices_Concat_sl_byte_byte_j0 l = keepT [i_,o_,o_,i_,o_,o_,o_,o_,o_,o_,o_,o_,o_,o_,o_,o_,o_,o_,o_,o_,o_,o_,o_,o_,o_,o_,o_,o_,o_,o_,o_,o_,o_,o_,o_,o_] l := rfl
@[go_sem] theorem kt_slices_Concat_sl_byte_byte_j3 (l : List AV) : keepT i_slices_Concat_sl_byte_byte_j3 l = keepT [o_,o_,o_,o_,o_,o_,i_,o_,o_,o_,o_,o_,o_,o_,o_,o_,o_,o_,o_,o_,o_,o_,o_,o_,o_,i_,i_,i_,o_,o_,o_,o_,o_,o_,o_,o_] l := rfl
@[go_sem] theorem kt_slices_Concat_sl_byte_byte_k1 (l : List AV) : keepT i_slices_Concat_sl_byte_byte_k1 l = keepT [o_,o_,o_,o_,o_,o_,i_,o_,o_,o_,o_,o_,o_,o_,o_,o_,o_,o_,o_,o_,o_,o_,o_,o_,o_,i_,i_,i_,o_,o_,o_,o_,o_,o_,o_,o_] l := rfl
@[go_sem] theorem kt_slices_Concat_sl_byte_byte_j2 (l : List AV) : keepT i_slices_Concat_sl_byte_byte_j2 l = keepT [o_,o_,o_,o_,o_,o_,i_,o_,o_,o_,o_,o_,o_,o_,o_,o_,o_,o_,o_,o_,o_,o_,o_,o_,o_,o_,o_,o_,o_,o_,o_,o_,o_,o_,o_,o_] l := rfl
@[go_sem] theorem kt_slices_Grow_sl_byte_byte_r (l : List AV) : keepT i_slices_Grow_sl_byte_byte_r l = keepT [o_,o_,o_,o_,i_,o_,o_,o_,o_,o_,o_,o_,o_,o_,o_,o_,o_,o_,o_,o_,o_,o_,o_,o_,o_,o_,o_] l := rfl
@[go_sem] theorem kt_tree_of_r (l : List AV) : keepT i_tree_of_r l = keepT [o_,o_,o_,o_,o_,o_,i_,i_,o_,o_,o_,o_,o_,o_,o_,o_] l := rfl
@[go_sem] theorem kt_digest_Node_r (l : List AV) : keepT i_digest_Node_r l = keepT [o_,o_,o_,o_,o_,o_,o_,o_,i_,i_,o_,o_,o_,o_,o_,o_,o_,o_,o_,o_,o_,o_,o_,o_,o_,o_,o_,o_,o_,o_,o_,o_,o_,o_,o_,o_,o_,o_] l := rfl
@[go_sem] theorem kt_tree_Full_r (l : List AV) : keepT i_tree_Full_r l = keepT [o_,o_,i_,o_,o_,o_,o_,o_,o_,o_] l := rfl
@[go_sem] theorem kt_tree_full_r (l : List AV) : keepT i_tree_full_r l = keepT [o_,o_,i_,o_,o_,o_,o_,o_,o_,o_,o_,o_,o_,o_,o_] l := rfl
@[go_sem] theorem kt_tree_full_1_r (l : List AV) : keepT i_tree_full_1_r l = keepT [o_,o_,i_,o_,o_,o_] l := rfl
@[go_sem] theorem kt_chunk_Cut_1_r (l : List AV) : keepT i_chunk_Cut_1_r l = keepT [o_,o_,o_,o_,o_,o_,o_,i_,o_,o_,o_,o_,o_,o_,o_,o_,o_,o_,o_,o_,o_,o_,o_,o_,o_,o_,o_,o_,o_,o_,o_,o_,o_,o_,o_,o_,o_,o_,o_,o_,o_,o_,o_,o_,o_,o_,o_,o_,o_,o_,o_,o_,o_,o_,o_,o_,o_,o_,o_,o_,o_,o_] l := rfl
@[go_sem] theorem kt_chunk_Join_r (l : List AV) : keepT i_chunk_Join_r l = keepT [o_,o_,o_,o_,o_,o_,i_,i_,o_,o_,o_,o_,o_,o_,o_,o_,o_,o_,o_,o_,o_,o_,o_,o_,o_,o_,o_,o_,o_,o_,o_,o_,o_,o_,o_,o_,o_,o_,o_,o_,o_,o_,o_,o_,o_,o_,o_,o_,o_,o_,o_,o_,o_,o_,o_,o_,o_,o_,o_,o_,o_,o_,o_,o_,o_,o_,o_,o_,o_,o_,o_,o_,o_,o_,o_,o_,o_] l := rfl
@[go_sem] theorem kt_chunk_Join_j2 (l : List AV) : keepT i_chunk_Join_j2 l = keepT [i_,o_,o_,o_,i_,i_,i_,o_,o_,o_,o_,o_,o_,o_,o_,o_,o_,o_,o_,o_,o_,o_,o_,o_,o_,o_,o_,o_,o_,o_,o_,o_,o_,o_,o_,o_,o_,o_,i_,i_,i_,o_,o_,o_,o_,o_,o_,o_,o_,o_,o_,o_,o_,o_,o_,o_,o_,o_,o_,o_,o_,o_,o_,o_,o_,o_,o_,o_,o_,o_,o_,o_,o_,o_,o_,o_,o_] l := rfl
@[go_sem] theorem kt_chunk_Join_j1 (l : List AV) : keepT i_chunk_Join_j1 l = keepT [i_,o_,o_,o_,i_,i_,i_,o_,o_,o_,o_,o_,o_,o_,o_,o_,o_,o_,o_,o_,o_,o_,o_,o_,o_,o_,o_,o_,o_,o_,o_,o_,o_,o_,o_,o_,o_,o_,i_,i_,i_,o_,o_,o_,o_,o_,o_,o_,o_,o_,o_,o_,o_,o_,o_,o_,o_,o_,o_,o_,o_,o_,o_,o_,o_,o_,o_,o_,o_,o_,o_,o_,o_,o_,o_,o_,o_] l := rfl
@[go_sem] theorem kt_chunk_Join_k0 (l : List AV) : keepT i_chunk_Join_k0 l = keepT [i_,o_,o_,o_,i_,i_,i_,o_,o_,o_,o_,o_,o_,o_,o_,o_,o_,o_,o_,o_,o_,o_,o_,o_,o_,o_,o_,o_,o_,o_,o_,o_,o_,o_,o_,o_,o_,o_,i_,i_,i_,o_,o_,o_,o_,o_,o_,o_,o_,o_,o_,o_,o_,o_,o_,o_,o_,o_,o_,o_,o_,o_,o_,o_,o_,o_,o_,o_,o_,o_,o_,o_,o_,o_,o_,o_,o_] l := rfl
@[go_sem] theorem kt_chunk_Join_j0 (l : List AV) : keepT i_chunk_Join_j0 l = keepT [o_,o_,o_,o_,i_,i_,i_,o_,o_,o_,o_,o_,o_,o_,o_,o_,o_,o_,o_,o_,o_,o_,o_,o_,o_,o_,o_,o_,o_,o_,o_,o_,o_,o_,o_,o_,o_,o_,o_,o_,o_,o_,o_,o_,o_,o_,o_,o_,o_,o_,o_,o_,o_,o_,o_,o_,o_,o_,o_,o_,o_,o_,o_,o_,o_,o_,o_,o_,o_,o_,o_,o_,o_,o_,o_,o_,o_] l := rfl
@[go_sem] theorem kt_chunk_cuts_r (l : List AV) : keepT i_chunk_cuts_r l = keepT [o_,o_,i_,o_,o_,o_,o_,o_,o_,o_,o_,o_,o_,o_,o_,o_,o_,o_,o_,o_,o_,o_,o_,o_] l := rfl
@[go_sem] theorem kt_chunk_cuts_j1 (l : List AV) : keepT i_chunk_cuts_j1 l = keepT [o_,o_,o_,i_,o_,o_,o_,o_,o_,o_,o_,o_,i_,i_,i_,o_,o_,o_,o_,o_,o_,o_,o_,o_] l := rfl
@[go_sem] theorem kt_chunk_cuts_k0 (l : List AV) : keepT i_chunk_cuts_k0 l = keepT [o_,o_,o_,i_,o_,o_,o_,o_,o_,o_,o_,o_,i_,i_,i_,o_,o_,o_,o_,o_,o_,o_,o_,o_] l := rfl
@[go_sem] theorem kt_chunk_cuts_j0 (l : List AV) : keepT i_chunk_cuts_j0 l = keepT [o_,o_,o_,i_,o_,o_,o_,o_,o_,o_,o_,o_,o_,o_,o_,o_,o_,o_,o_,o_,o_,o_,o_,o_] l := rfl
@[go_sem] theorem kt_chunk_dark_r (l : List AV) : keepT i_chunk_dark_r l = keepT [o_,o_,i_,o_,o_,o_,o_,o_,o_,o_,o_] l := rfl
@[go_sem] theorem kt_chunk_Fits_r (l : List AV) : keepT i_chunk_Fits_r l = keepT [o_,o_,o_,o_,o_,o_,o_,o_,i_,o_,o_,o_,o_,o_,o_,o_,o_,o_,o_,o_,o_,o_,o_,o_,o_,o_,o_,o_,o_,o_,o_,o_,o_,o_,o_,o_,o_,o_,o_,o_,o_,o_,o_,o_,o_,o_,o_,o_,o_,o_,o_,o_,o_,o_,o_,o_,o_,o_,o_,o_,o_,o_,o_,o_,o_] l := rfl
@[go_sem] theorem kt_chunk_Fits_j0 (l : List AV) : keepT i_chunk_Fits_j0 l = keepT [o_,o_,o_,o_,o_,o_,o_,o_,o_,o_,o_,o_,o_,o_,o_,o_,o_,o_,o_,o_,o_,o_,o_,o_,o_,o_,o_,o_,o_,o_,o_,o_,o_,o_,o_,o_,o_,o_,o_,o_,o_,o_,o_,o_,o_,o_,o_,o_,o_,o_,o_,o_,o_,o_,o_,o_,o_,o_,o_,o_,o_,o_,o_,o_,o_] l := rfl
@[go_sem] theorem kt_bytes_Equal_r (l : List AV) : keepT i_bytes_Equal_r l = keepT [o_,o_,o_,o_,i_,o_,o_,o_,o_,o_] l := rfl
@[go_sem] theorem kt_chunk_Join_1_r (l : List AV) : keepT i_chunk_Join_1_r l = keepT [o_,o_,o_,o_,i_,o_,o_,o_,o_,o_,o_,o_,o_,o_,o_,o_,o_,o_,o_,o_,o_,o_,o_,o_,o_,o_,o_,o_,o_,o_,o_,o_,o_,o_,o_,o_,o_,o_,o_,o_,o_,o_] l := rfl
@[go_sem] theorem kt_chunk_Count_r (l : List AV) : keepT i_chunk_Count_r l = keepT [o_,o_,i_,o_,o_,o_,o_,o_,o_] l := rfl
@[go_sem] theorem kt_ref04_Same_r (l : List AV) : keepT i_ref04_Same_r l = keepT [o_,o_,o_,o_,i_,o_,o_,o_,o_,o_,o_,o_,o_,o_,o_,o_,o_,o_,o_,o_,o_,o_,o_,o_,o_,o_,o_,o_,o_,o_,o_,o_,o_,o_,o_,o_,o_,o_,o_,o_,o_,o_,o_,o_,o_,o_,o_,o_,o_,o_,o_,o_,o_,o_,o_,o_,o_,o_,o_,o_,o_,o_,o_,o_,o_,o_,o_,o_] l := rfl
@[go_sem] theorem kt_ref04_Same_j1 (l : List AV) : keepT i_ref04_Same_j1 l = keepT [o_,o_,i_,i_,o_,i_,o_,o_,o_,o_,o_,o_,o_,o_,o_,o_,o_,o_,o_,o_,o_,o_,o_,o_,o_,o_,o_,o_,o_,o_,o_,o_,o_,o_,o_,o_,o_,o_,o_,o_,o_,o_,o_,o_,o_,o_,o_,o_,o_,o_,o_,o_,o_,o_,o_,o_,o_,o_,o_,o_,o_,o_,o_,o_,o_,o_,o_,o_] l := rfl
@[go_sem] theorem kt_ref04_Same_k0 (l : List AV) : keepT i_ref04_Same_k0 l = keepT [o_,o_,i_,i_,o_,i_,o_,o_,o_,o_,o_,o_,o_,o_,o_,o_,o_,o_,o_,o_,o_,o_,o_,o_,o_,o_,o_,o_,o_,o_,o_,o_,o_,o_,o_,o_,o_,o_,o_,o_,o_,o_,o_,o_,o_,o_,o_,o_,o_,o_,o_,o_,o_,o_,o_,o_,o_,o_,o_,o_,o_,o_,o_,o_,o_,o_,o_,o_] l := rfl
@[go_sem] theorem kt_ref04_Same_j0 (l : List AV) : keepT i_ref04_Same_j0 l = keepT [o_,o_,o_,o_,o_,o_,o_,o_,o_,o_,o_,o_,o_,o_,o_,o_,o_,o_,o_,o_,o_,o_,o_,o_,o_,o_,o_,o_,o_,o_,o_,o_,o_,o_,o_,o_,o_,o_,o_,o_,o_,o_,o_,o_,o_,o_,o_,o_,o_,o_,o_,o_,o_,o_,o_,o_,o_,o_,o_,o_,o_,o_,o_,o_,o_,o_,o_,o_] l := rfl
@[go_sem] theorem kt_law11_ChunkRoots_r (l : List AV) : keepT i_law11_ChunkRoots_r l = keepT [o_,o_,o_,o_,o_,o_,i_,o_,o_,o_,o_,o_,o_,o_,o_,o_,o_,o_,o_,o_,o_,o_,o_,o_,o_,o_,o_,o_,o_,o_,o_,o_,o_,o_,o_,o_,o_,o_,o_,o_,o_,o_,o_,o_,o_,o_,o_,o_,o_,o_,o_,o_,o_,o_,o_,o_,o_,o_,o_,o_,o_,o_,o_,o_,o_,o_] l := rfl
@[go_sem] theorem kt_law11_small_r (l : List AV) : keepT i_law11_small_r l = keepT [o_,o_,i_,o_,o_,o_] l := rfl
@[go_sem] theorem kt_ref04_Light_r (l : List AV) : keepT i_ref04_Light_r l = keepT [o_,o_,o_,o_,o_,o_,i_,o_,o_,o_,o_,o_,o_,o_,o_,o_,o_,o_,o_,o_,o_,o_,o_,o_,o_,o_,o_,o_,o_,o_,o_,o_,o_,o_,o_,o_,o_,o_,o_,o_,o_,o_,o_,o_,o_,o_,o_,o_,o_,o_,o_,o_,o_,o_,o_,o_,o_,o_,o_,o_] l := rfl
@[go_sem] theorem kt_ref04_Light_j1 (l : List AV) : keepT i_ref04_Light_j1 l = keepT [o_,i_,i_,i_,o_,o_,o_,i_,o_,o_,o_,o_,o_,o_,o_,o_,o_,o_,o_,o_,o_,o_,o_,o_,o_,o_,o_,o_,o_,o_,o_,o_,o_,o_,o_,o_,o_,o_,o_,o_,o_,o_,o_,o_,o_,o_,o_,o_,o_,o_,o_,o_,o_,o_,o_,o_,o_,o_,o_,o_] l := rfl
@[go_sem] theorem kt_ref04_Light_k0 (l : List AV) : keepT i_ref04_Light_k0 l = keepT [o_,i_,i_,i_,o_,o_,o_,i_,o_,o_,o_,o_,o_,o_,o_,o_,o_,o_,o_,o_,o_,o_,o_,o_,o_,o_,o_,o_,o_,o_,o_,o_,o_,o_,o_,o_,o_,o_,o_,o_,o_,o_,o_,o_,o_,o_,o_,o_,o_,o_,o_,o_,o_,o_,o_,o_,o_,o_,o_,o_] l := rfl
@[go_sem] theorem kt_ref04_Light_j0 (l : List AV) : keepT i_ref04_Light_j0 l = keepT [o_,i_,o_,o_,o_,o_,o_,o_,o_,o_,o_,o_,o_,o_,o_,o_,o_,o_,o_,o_,o_,o_,o_,o_,o_,o_,o_,o_,o_,o_,o_,o_,o_,o_,o_,o_,o_,o_,o_,o_,o_,o_,o_,o_,o_,o_,o_,o_,o_,o_,o_,o_,o_,o_,o_,o_,o_,o_,o_,o_] l := rfl
@[go_sem] theorem kt_law11_all_r (l : List AV) : keepT i_law11_all_r l = keepT [o_,o_,i_,o_,o_,o_,o_,o_,o_,o_,o_,o_,o_,o_,o_,o_,o_,o_,o_,o_,o_] l := rfl
@[go_sem] theorem kt_law11_all_j1 (l : List AV) : keepT i_law11_all_j1 l = keepT [i_,o_,o_,i_,o_,o_,o_,o_,o_,o_,o_,o_,o_,o_,o_,o_,o_,o_,o_,o_,o_] l := rfl
@[go_sem] theorem kt_law11_all_k0 (l : List AV) : keepT i_law11_all_k0 l = keepT [i_,o_,o_,i_,o_,o_,o_,o_,o_,o_,o_,o_,o_,o_,o_,o_,o_,o_,o_,o_,o_] l := rfl
@[go_sem] theorem kt_law11_all_j0 (l : List AV) : keepT i_law11_all_j0 l = keepT [o_,o_,o_,o_,o_,o_,o_,o_,o_,o_,o_,o_,o_,o_,o_,o_,o_,o_,o_,o_,o_] l := rfl
@[go_sem] theorem kt_law11_ChunkStays_r (l : List AV) : keepT i_law11_ChunkStays_r l = keepT [o_,o_,o_,o_,i_,o_,o_,o_,o_,o_,o_,o_,o_,o_,o_,o_,o_,o_,o_,o_,o_,o_,o_,o_,o_,o_,o_,o_,o_,o_,o_,o_,o_,o_,o_,o_,o_,o_,o_,o_,o_,o_,o_,o_,o_,o_,o_,o_,o_,o_,o_,o_,o_,o_,o_,o_,o_,o_,o_,o_,o_,o_,o_,o_,o_,o_,o_,o_,o_,o_,o_,o_,o_,o_,o_,o_,o_,o_,o_,o_,o_,o_,o_,o_,o_] l := rfl
@[go_sem] theorem kt_ref04_Copy_r (l : List AV) : keepT i_ref04_Copy_r l = keepT [o_,o_,i_,o_,o_,o_,o_,o_,o_,o_,o_,o_,o_,o_,o_,o_,o_,o_,o_,o_,o_,o_,o_,o_,o_,o_,o_,o_,o_,o_,o_,o_,o_,o_,o_,o_,o_,o_,o_] l := rfl
@[go_sem] theorem kt_ref04_Copy_j1 (l : List AV) : keepT i_ref04_Copy_j1 l = keepT [o_,i_,i_,i_,i_,o_,o_,o_,o_,o_,o_,o_,o_,o_,o_,o_,o_,o_,o_,o_,o_,o_,o_,o_,o_,o_,o_,o_,o_,o_,o_,o_,o_,o_,o_,o_,o_,o_,o_] l := rfl
@[go_sem] theorem kt_ref04_Copy_k0 (l : List AV) : keepT i_ref04_Copy_k0 l = keepT [o_,i_,i_,i_,i_,o_,o_,o_,o_,o_,o_,o_,o_,o_,o_,o_,o_,o_,o_,o_,o_,o_,o_,o_,o_,o_,o_,o_,o_,o_,o_,o_,o_,o_,o_,o_,o_,o_,o_] l := rfl
@[go_sem] theorem kt_ref04_Copy_j0 (l : List AV) : keepT i_ref04_Copy_j0 l = keepT [o_,o_,i_,i_,o_,o_,o_,o_,o_,o_,o_,o_,o_,o_,o_,o_,o_,o_,o_,o_,o_,o_,o_,o_,o_,o_,o_,o_,o_,o_,o_,o_,o_,o_,o_,o_,o_,o_,o_] l := rfl
noncomputable def L_law11_ChunkBack_0 (st : St) : Option (Ex × St) := lp tab G0 4 i_law11_ChunkBack_k0 i_law11_ChunkBack_b0 st
theorem L_law11_ChunkBack_0_eq (st : St) : L_law11_ChunkBack_0 st = againL L_law11_ChunkBack_0 4 i_law11_ChunkBack_k0 (app tab G0 4 [] (ex tab G0 4 i_law11_ChunkBack_b0 st)) := lp_eq tab G0 4 i_law11_ChunkBack_k0 i_law11_ChunkBack_b0 st
@[go_sem] theorem L_law11_ChunkBack_0_in (K : List Fr) (st : St) : app tab G0 4 K (ex tab G0 4 (.loop i_law11_ChunkBack_k0 i_law11_ChunkBack_b0) st) = app tab G0 4 K (L_law11_ChunkBack_0 (clean 4 i_law11_ChunkBack_k0 st)) := rfl
noncomputable def L_ref05_Grown_0 (st : St) : Option (Ex × St) := lp tab G0 2 i_ref05_Grown_k0 i_ref05_Grown_b0 st
theorem L_ref05_Grown_0_eq (st : St) : L_ref05_Grown_0 st = againL L_ref05_Grown_0 2 i_ref05_Grown_k0 (app tab G0 2 [] (ex tab G0 2 i_ref05_Grown_b0 st)) := lp_eq tab G0 2 i_ref05_Grown_k0 i_ref05_Grown_b0 st
@[go_sem] theorem L_ref05_Grown_0_in (K : List Fr) (st : St) : app tab G0 2 K (ex tab G0 2 (.loop i_ref05_Grown_k0 i_ref05_Grown_b0) st) = app tab G0 2 K (L_ref05_Grown_0 (clean 2 i_ref05_Grown_k0 st)) := rfl
noncomputable def L_slices_IndexFunc_sl_api_Tree_api_Tree_0 (st : St) : Option (Ex × St) := lp tab G0 0 i_slices_IndexFunc_sl_api_Tree_api_Tree_k0 i_slices_IndexFunc_sl_api_Tree_api_Tree_b0 st
theorem L_slices_IndexFunc_sl_api_Tree_api_Tree_0_eq (st : St) : L_slices_IndexFunc_sl_api_Tree_api_Tree_0 st = againL L_slices_IndexFunc_sl_api_Tree_api_Tree_0 0 i_slices_IndexFunc_sl_api_Tree_api_Tree_k0 (app tab G0 0 [] (ex tab G0 0 i_slices_IndexFunc_sl_api_Tree_api_Tree_b0 st)) := lp_eq tab G0 0 i_slices_IndexFunc_sl_api_Tree_api_Tree_k0 i_slices_IndexFunc_sl_api_Tree_api_Tree_b0 st
@[go_sem] theorem L_slices_IndexFunc_sl_api_Tree_api_Tree_0_in (K : List Fr) (st : St) : app tab G0 0 K (ex tab G0 0 (.loop i_slices_IndexFunc_sl_api_Tree_api_Tree_k0 i_slices_IndexFunc_sl_api_Tree_api_Tree_b0) st) = app tab G0 0 K (L_slices_IndexFunc_sl_api_Tree_api_Tree_0 (clean 0 i_slices_IndexFunc_sl_api_Tree_api_Tree_k0 st)) := rfl
noncomputable def L_sha_Sum_1 (st : St) : Option (Ex × St) := lp tab G0 3 i_sha_Sum_k1 i_sha_Sum_b1 st
theorem L_sha_Sum_1_eq (st : St) : L_sha_Sum_1 st = againL L_sha_Sum_1 3 i_sha_Sum_k1 (app tab G0 3 [] (ex tab G0 3 i_sha_Sum_b1 st)) := lp_eq tab G0 3 i_sha_Sum_k1 i_sha_Sum_b1 st
@[go_sem] theorem L_sha_Sum_1_in (K : List Fr) (st : St) : app tab G0 3 K (ex tab G0 3 (.loop i_sha_Sum_k1 i_sha_Sum_b1) st) = app tab G0 3 K (L_sha_Sum_1 (clean 3 i_sha_Sum_k1 st)) := rfl
noncomputable def L_sha_Sum_0 (st : St) : Option (Ex × St) := lp tab G0 3 i_sha_Sum_k0 i_sha_Sum_b0 st
theorem L_sha_Sum_0_eq (st : St) : L_sha_Sum_0 st = againL L_sha_Sum_0 3 i_sha_Sum_k0 (app tab G0 3 [] (ex tab G0 3 i_sha_Sum_b0 st)) := lp_eq tab G0 3 i_sha_Sum_k0 i_sha_Sum_b0 st
@[go_sem] theorem L_sha_Sum_0_in (K : List Fr) (st : St) : app tab G0 3 K (ex tab G0 3 (.loop i_sha_Sum_k0 i_sha_Sum_b0) st) = app tab G0 3 K (L_sha_Sum_0 (clean 3 i_sha_Sum_k0 st)) := rfl
noncomputable def L_sha_Sum_2 (st : St) : Option (Ex × St) := lp tab G0 3 i_sha_Sum_k2 i_sha_Sum_b2 st
theorem L_sha_Sum_2_eq (st : St) : L_sha_Sum_2 st = againL L_sha_Sum_2 3 i_sha_Sum_k2 (app tab G0 3 [] (ex tab G0 3 i_sha_Sum_b2 st)) := lp_eq tab G0 3 i_sha_Sum_k2 i_sha_Sum_b2 st
@[go_sem] theorem L_sha_Sum_2_in (K : List Fr) (st : St) : app tab G0 3 K (ex tab G0 3 (.loop i_sha_Sum_k2 i_sha_Sum_b2) st) = app tab G0 3 K (L_sha_Sum_2 (clean 3 i_sha_Sum_k2 st)) := rfl
noncomputable def L_sha_Tail_0 (st : St) : Option (Ex × St) := lp tab G0 1 i_sha_Tail_k0 i_sha_Tail_b0 st
theorem L_sha_Tail_0_eq (st : St) : L_sha_Tail_0 st = againL L_sha_Tail_0 1 i_sha_Tail_k0 (app tab G0 1 [] (ex tab G0 1 i_sha_Tail_b0 st)) := lp_eq tab G0 1 i_sha_Tail_k0 i_sha_Tail_b0 st
@[go_sem] theorem L_sha_Tail_0_in (K : List Fr) (st : St) : app tab G0 1 K (ex tab G0 1 (.loop i_sha_Tail_k0 i_sha_Tail_b0) st) = app tab G0 1 K (L_sha_Tail_0 (clean 1 i_sha_Tail_k0 st)) := rfl
noncomputable def L_sha_Tail_1 (st : St) : Option (Ex × St) := lp tab G0 1 i_sha_Tail_k1 i_sha_Tail_b1 st
theorem L_sha_Tail_1_eq (st : St) : L_sha_Tail_1 st = againL L_sha_Tail_1 1 i_sha_Tail_k1 (app tab G0 1 [] (ex tab G0 1 i_sha_Tail_b1 st)) := lp_eq tab G0 1 i_sha_Tail_k1 i_sha_Tail_b1 st
@[go_sem] theorem L_sha_Tail_1_in (K : List Fr) (st : St) : app tab G0 1 K (ex tab G0 1 (.loop i_sha_Tail_k1 i_sha_Tail_b1) st) = app tab G0 1 K (L_sha_Tail_1 (clean 1 i_sha_Tail_k1 st)) := rfl
noncomputable def L_sha_Step_0 (st : St) : Option (Ex × St) := lp tab G0 3 i_sha_Step_k0 i_sha_Step_b0 st
theorem L_sha_Step_0_eq (st : St) : L_sha_Step_0 st = againL L_sha_Step_0 3 i_sha_Step_k0 (app tab G0 3 [] (ex tab G0 3 i_sha_Step_b0 st)) := lp_eq tab G0 3 i_sha_Step_k0 i_sha_Step_b0 st
@[go_sem] theorem L_sha_Step_0_in (K : List Fr) (st : St) : app tab G0 3 K (ex tab G0 3 (.loop i_sha_Step_k0 i_sha_Step_b0) st) = app tab G0 3 K (L_sha_Step_0 (clean 3 i_sha_Step_k0 st)) := rfl
noncomputable def L_sha_Step_1 (st : St) : Option (Ex × St) := lp tab G0 3 i_sha_Step_k1 i_sha_Step_b1 st
theorem L_sha_Step_1_eq (st : St) : L_sha_Step_1 st = againL L_sha_Step_1 3 i_sha_Step_k1 (app tab G0 3 [] (ex tab G0 3 i_sha_Step_b1 st)) := lp_eq tab G0 3 i_sha_Step_k1 i_sha_Step_b1 st
@[go_sem] theorem L_sha_Step_1_in (K : List Fr) (st : St) : app tab G0 3 K (ex tab G0 3 (.loop i_sha_Step_k1 i_sha_Step_b1) st) = app tab G0 3 K (L_sha_Step_1 (clean 3 i_sha_Step_k1 st)) := rfl
noncomputable def L_sha_Words_0 (st : St) : Option (Ex × St) := lp tab G0 1 i_sha_Words_k0 i_sha_Words_b0 st
theorem L_sha_Words_0_eq (st : St) : L_sha_Words_0 st = againL L_sha_Words_0 1 i_sha_Words_k0 (app tab G0 1 [] (ex tab G0 1 i_sha_Words_b0 st)) := lp_eq tab G0 1 i_sha_Words_k0 i_sha_Words_b0 st
@[go_sem] theorem L_sha_Words_0_in (K : List Fr) (st : St) : app tab G0 1 K (ex tab G0 1 (.loop i_sha_Words_k0 i_sha_Words_b0) st) = app tab G0 1 K (L_sha_Words_0 (clean 1 i_sha_Words_k0 st)) := rfl
noncomputable def L_sha_Words_1 (st : St) : Option (Ex × St) := lp tab G0 1 i_sha_Words_k1 i_sha_Words_b1 st
theorem L_sha_Words_1_eq (st : St) : L_sha_Words_1 st = againL L_sha_Words_1 1 i_sha_Words_k1 (app tab G0 1 [] (ex tab G0 1 i_sha_Words_b1 st)) := lp_eq tab G0 1 i_sha_Words_k1 i_sha_Words_b1 st
@[go_sem] theorem L_sha_Words_1_in (K : List Fr) (st : St) : app tab G0 1 K (ex tab G0 1 (.loop i_sha_Words_k1 i_sha_Words_b1) st) = app tab G0 1 K (L_sha_Words_1 (clean 1 i_sha_Words_k1 st)) := rfl
noncomputable def L_coder_Number_0 (st : St) : Option (Ex × St) := lp tab G0 1 i_coder_Number_k0 i_coder_Number_b0 st
theorem L_coder_Number_0_eq (st : St) : L_coder_Number_0 st = againL L_coder_Number_0 1 i_coder_Number_k0 (app tab G0 1 [] (ex tab G0 1 i_coder_Number_b0 st)) := lp_eq tab G0 1 i_coder_Number_k0 i_coder_Number_b0 st
@[go_sem] theorem L_coder_Number_0_in (K : List Fr) (st : St) : app tab G0 1 K (ex tab G0 1 (.loop i_coder_Number_k0 i_coder_Number_b0) st) = app tab G0 1 K (L_coder_Number_0 (clean 1 i_coder_Number_k0 st)) := rfl
noncomputable def L_coder_Number_1 (st : St) : Option (Ex × St) := lp tab G0 1 i_coder_Number_k1 i_coder_Number_b1 st
theorem L_coder_Number_1_eq (st : St) : L_coder_Number_1 st = againL L_coder_Number_1 1 i_coder_Number_k1 (app tab G0 1 [] (ex tab G0 1 i_coder_Number_b1 st)) := lp_eq tab G0 1 i_coder_Number_k1 i_coder_Number_b1 st
@[go_sem] theorem L_coder_Number_1_in (K : List Fr) (st : St) : app tab G0 1 K (ex tab G0 1 (.loop i_coder_Number_k1 i_coder_Number_b1) st) = app tab G0 1 K (L_coder_Number_1 (clean 1 i_coder_Number_k1 st)) := rfl
noncomputable def L_slices_Concat_sl_byte_byte_0 (st : St) : Option (Ex × St) := lp tab G0 2 i_slices_Concat_sl_byte_byte_k0 i_slices_Concat_sl_byte_byte_b0 st
theorem L_slices_Concat_sl_byte_byte_0_eq (st : St) : L_slices_Concat_sl_byte_byte_0 st = againL L_slices_Concat_sl_byte_byte_0 2 i_slices_Concat_sl_byte_byte_k0 (app tab G0 2 [] (ex tab G0 2 i_slices_Concat_sl_byte_byte_b0 st)) := lp_eq tab G0 2 i_slices_Concat_sl_byte_byte_k0 i_slices_Concat_sl_byte_byte_b0 st
@[go_sem] theorem L_slices_Concat_sl_byte_byte_0_in (K : List Fr) (st : St) : app tab G0 2 K (ex tab G0 2 (.loop i_slices_Concat_sl_byte_byte_k0 i_slices_Concat_sl_byte_byte_b0) st) = app tab G0 2 K (L_slices_Concat_sl_byte_byte_0 (clean 2 i_slices_Concat_sl_byte_byte_k0 st)) := rfl
noncomputable def L_slices_Concat_sl_byte_byte_1 (st : St) : Option (Ex × St) := lp tab G0 2 i_slices_Concat_sl_byte_byte_k1 i_slices_Concat_sl_byte_byte_b1 st
theorem L_slices_Concat_sl_byte_byte_1_eq (st : St) : L_slices_Concat_sl_byte_byte_1 st = againL L_slices_Concat_sl_byte_byte_1 2 i_slices_Concat_sl_byte_byte_k1 (app tab G0 2 [] (ex tab G0 2 i_slices_Concat_sl_byte_byte_b1 st)) := lp_eq tab G0 2 i_slices_Concat_sl_byte_byte_k1 i_slices_Concat_sl_byte_byte_b1 st
@[go_sem] theorem L_slices_Concat_sl_byte_byte_1_in (K : List Fr) (st : St) : app tab G0 2 K (ex tab G0 2 (.loop i_slices_Concat_sl_byte_byte_k1 i_slices_Concat_sl_byte_byte_b1) st) = app tab G0 2 K (L_slices_Concat_sl_byte_byte_1 (clean 2 i_slices_Concat_sl_byte_byte_k1 st)) := rfl
noncomputable def L_chunk_Join_0 (st : St) : Option (Ex × St) := lp tab G0 7 i_chunk_Join_k0 i_chunk_Join_b0 st
theorem L_chunk_Join_0_eq (st : St) : L_chunk_Join_0 st = againL L_chunk_Join_0 7 i_chunk_Join_k0 (app tab G0 7 [] (ex tab G0 7 i_chunk_Join_b0 st)) := lp_eq tab G0 7 i_chunk_Join_k0 i_chunk_Join_b0 st
@[go_sem] theorem L_chunk_Join_0_in (K : List Fr) (st : St) : app tab G0 7 K (ex tab G0 7 (.loop i_chunk_Join_k0 i_chunk_Join_b0) st) = app tab G0 7 K (L_chunk_Join_0 (clean 7 i_chunk_Join_k0 st)) := rfl
noncomputable def L_chunk_cuts_0 (st : St) : Option (Ex × St) := lp tab G0 3 i_chunk_cuts_k0 i_chunk_cuts_b0 st
theorem L_chunk_cuts_0_eq (st : St) : L_chunk_cuts_0 st = againL L_chunk_cuts_0 3 i_chunk_cuts_k0 (app tab G0 3 [] (ex tab G0 3 i_chunk_cuts_b0 st)) := lp_eq tab G0 3 i_chunk_cuts_k0 i_chunk_cuts_b0 st
@[go_sem] theorem L_chunk_cuts_0_in (K : List Fr) (st : St) : app tab G0 3 K (ex tab G0 3 (.loop i_chunk_cuts_k0 i_chunk_cuts_b0) st) = app tab G0 3 K (L_chunk_cuts_0 (clean 3 i_chunk_cuts_k0 st)) := rfl
noncomputable def L_ref04_Same_0 (st : St) : Option (Ex × St) := lp tab G0 2 i_ref04_Same_k0 i_ref04_Same_b0 st
theorem L_ref04_Same_0_eq (st : St) : L_ref04_Same_0 st = againL L_ref04_Same_0 2 i_ref04_Same_k0 (app tab G0 2 [] (ex tab G0 2 i_ref04_Same_b0 st)) := lp_eq tab G0 2 i_ref04_Same_k0 i_ref04_Same_b0 st
@[go_sem] theorem L_ref04_Same_0_in (K : List Fr) (st : St) : app tab G0 2 K (ex tab G0 2 (.loop i_ref04_Same_k0 i_ref04_Same_b0) st) = app tab G0 2 K (L_ref04_Same_0 (clean 2 i_ref04_Same_k0 st)) := rfl
noncomputable def L_ref04_Light_0 (st : St) : Option (Ex × St) := lp tab G0 1 i_ref04_Light_k0 i_ref04_Light_b0 st
theorem L_ref04_Light_0_eq (st : St) : L_ref04_Light_0 st = againL L_ref04_Light_0 1 i_ref04_Light_k0 (app tab G0 1 [] (ex tab G0 1 i_ref04_Light_b0 st)) := lp_eq tab G0 1 i_ref04_Light_k0 i_ref04_Light_b0 st
@[go_sem] theorem L_ref04_Light_0_in (K : List Fr) (st : St) : app tab G0 1 K (ex tab G0 1 (.loop i_ref04_Light_k0 i_ref04_Light_b0) st) = app tab G0 1 K (L_ref04_Light_0 (clean 1 i_ref04_Light_k0 st)) := rfl
noncomputable def L_law11_all_0 (st : St) : Option (Ex × St) := lp tab G0 0 i_law11_all_k0 i_law11_all_b0 st
theorem L_law11_all_0_eq (st : St) : L_law11_all_0 st = againL L_law11_all_0 0 i_law11_all_k0 (app tab G0 0 [] (ex tab G0 0 i_law11_all_b0 st)) := lp_eq tab G0 0 i_law11_all_k0 i_law11_all_b0 st
@[go_sem] theorem L_law11_all_0_in (K : List Fr) (st : St) : app tab G0 0 K (ex tab G0 0 (.loop i_law11_all_k0 i_law11_all_b0) st) = app tab G0 0 K (L_law11_all_0 (clean 0 i_law11_all_k0 st)) := rfl
noncomputable def L_ref04_Copy_0 (st : St) : Option (Ex × St) := lp tab G0 7 i_ref04_Copy_k0 i_ref04_Copy_b0 st
theorem L_ref04_Copy_0_eq (st : St) : L_ref04_Copy_0 st = againL L_ref04_Copy_0 7 i_ref04_Copy_k0 (app tab G0 7 [] (ex tab G0 7 i_ref04_Copy_b0 st)) := lp_eq tab G0 7 i_ref04_Copy_k0 i_ref04_Copy_b0 st
@[go_sem] theorem L_ref04_Copy_0_in (K : List Fr) (st : St) : app tab G0 7 K (ex tab G0 7 (.loop i_ref04_Copy_k0 i_ref04_Copy_b0) st) = app tab G0 7 K (L_ref04_Copy_0 (clean 7 i_ref04_Copy_k0 st)) := rfl
end Go.Proofs.YtebiajdkgpcidaaDoor
