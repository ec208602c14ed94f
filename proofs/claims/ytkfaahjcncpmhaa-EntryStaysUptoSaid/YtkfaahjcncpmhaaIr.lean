/- The IR of the seat's functions, printed by a program of this session. -/
import Derived.Test.YtkfaahjcncpmhaaIrP0
set_option linter.unusedVariables false
namespace Go.Proofs.Ytkfaahjcncpmhaa
open Go.Ev

def i_ref14_Writer_entries_r : List Bool := [o_,o_,o_,o_,o_,o_,o_,o_,o_,o_,o_,o_,o_,o_,o_,o_,o_,o_,o_,o_,o_,o_,o_,o_,o_,o_,o_,o_,o_,o_,o_,o_,o_,o_,o_,o_]
def i_ref14_Writer_entries_j1 : List Bool := [i_,i_,o_,o_,i_,o_,o_,o_,o_,o_,o_,o_,o_,o_,o_,o_,o_,o_,o_,o_,o_,o_,o_,o_,o_,o_,o_,o_,o_,o_,o_,o_,o_,o_,o_,o_]
def i_ref14_Writer_entries_k0 : List Bool := [i_,i_,o_,o_,i_,o_,o_,o_,o_,o_,o_,o_,o_,o_,o_,o_,o_,o_,o_,o_,o_,o_,o_,o_,o_,o_,o_,o_,o_,o_,o_,o_,o_,o_,o_,o_]
def i_ref14_Writer_entries_j0 : List Bool := [o_,o_,o_,o_,o_,o_,o_,o_,o_,o_,o_,o_,o_,o_,o_,o_,o_,o_,o_,o_,o_,o_,o_,o_,o_,o_,o_,o_,o_,o_,o_,o_,o_,o_,o_,o_]
abbrev s_ref14_Writer_entries_R (h : Heap) : St := ⟨[u_,u_,u_,u_,u_,u_,u_,u_,u_,u_,u_,u_,u_,u_,u_,u_,u_,u_,u_,u_,u_,u_,u_,u_,u_,u_,u_,u_,u_,u_,u_,u_,u_,u_,u_,u_], h⟩
abbrev s_ref14_Writer_entries_K0 (t0 t1 t4 : AV) (h : Heap) : St := ⟨[t0, t1, u_,u_,t4, u_,u_,u_,u_,u_,u_,u_,u_,u_,u_,u_,u_,u_,u_,u_,u_,u_,u_,u_,u_,u_,u_,u_,u_,u_,u_,u_,u_,u_,u_,u_], h⟩
def i_ref14_Writer_entries_b0 : IR := (.seq (.seq (.reg [] [⟨(some 9), .mv (.t 4),none,[]⟩,⟨(some 10), .cn (.t 1),none,[]⟩,⟨(some 11), .len false (.t 10),none,[]⟩,⟨(some 12), .bin .plain .lss (.t 9) (.t 11),none,[]⟩]) (.cond (.t 12) .skip (.exit 0 i_ref14_Writer_entries_j0))) (.seq (.block 1 i_ref14_Writer_entries_j1 (.seq (.reg [] [⟨(some 15), .mv (.t 0),none,[]⟩,⟨(some 16), .cn (.t 1),none,[]⟩,⟨(some 17), .mv (.t 4),none,[]⟩,⟨(some 18), .ia 3 (.t 16) (.t 17),none,[]⟩,⟨(some 19), .fa 0 (.t 18),none,[]⟩,⟨(some 20), .load false 1 (.t 19),none,[]⟩,⟨(some 21), .call n_ref14_Writer_count [(.t 15), (.t 20)] [1],none,[]⟩]) (.seq (.reg [] [⟨(some 22), .mv (.t 0),none,[]⟩,⟨(some 23), .cn (.t 1),none,[]⟩,⟨(some 24), .mv (.t 4),none,[]⟩,⟨(some 25), .ia 3 (.t 23) (.t 24),none,[]⟩,⟨(some 26), .fa 1 (.t 25),none,[]⟩,⟨(some 27), .load false 1 (.t 26),none,[]⟩,⟨(some 28), .call n_ref14_Writer_count [(.t 22), (.t 27)] [2],none,[]⟩]) (.reg [] [⟨(some 29), .mv (.t 0),none,[]⟩,⟨(some 30), .cn (.t 1),none,[]⟩,⟨(some 31), .mv (.t 4),none,[]⟩,⟨(some 32), .ia 3 (.t 30) (.t 31),none,[]⟩,⟨(some 33), .fa 2 (.t 32),none,[]⟩,⟨(some 34), .load false 1 (.t 33),none,[]⟩,⟨(some 35), .call n_ref14_Writer_bytes [(.t 29), (.t 34), (.k (.int .i64 4096))] [3], none, [34]⟩])))) (.reg [] [⟨(some 13), .mv (.t 4),none,[]⟩,⟨(some 14), .bin .plain .add (.t 13) (.k (.int .i64 1)),none,[]⟩,⟨(some 4), .mv (.t 14),none,[]⟩])))

abbrev s_ref14_Writer_entries_J0 (h : Heap) : St := ⟨[u_,u_,u_,u_,u_,u_,u_,u_,u_,u_,u_,u_,u_,u_,u_,u_,u_,u_,u_,u_,u_,u_,u_,u_,u_,u_,u_,u_,u_,u_,u_,u_,u_,u_,u_,u_], h⟩
/-- (*heartwood/heartwoodref14.Writer).entries -/
def i_ref14_Writer_entries : Ev.Fn := ⟨2, 36, 4, (.seq (.reg [] [⟨(some 5), .mv (.t 0),none,[]⟩,⟨(some 6), .cn (.t 1),none,[]⟩,⟨(some 7), .len false (.t 6),none,[]⟩,⟨(some 8), .call n_ref14_Writer_count [(.t 5), (.t 7)] [0],none,[]⟩]) (.seq (.reg [] [⟨(some 4), .mv (.k (.int .i64 0)),none,[]⟩]) (.block 0 i_ref14_Writer_entries_j0 (.loop i_ref14_Writer_entries_k0 i_ref14_Writer_entries_b0)))),
 [], [], false, []⟩

def i_ref14_Writer_bytes_r : List Bool := [o_,o_,o_,o_,o_,o_,o_,o_,o_,o_,o_,o_,o_,o_,o_,o_,o_,o_,o_,o_,o_,o_,o_]
/-- (*heartwood/heartwoodref14.Writer).bytes -/
def i_ref14_Writer_bytes : Ev.Fn := ⟨3, 23, 1, (.seq (.seq (.reg [] [⟨(some 6), .cn (.t 1),none,[]⟩,⟨(some 7), .len false (.t 6),none,[]⟩,⟨(some 8), .mv (.t 2),none,[]⟩,⟨(some 9), .bin .plain .gtr (.t 7) (.t 8),none,[]⟩]) (.cond (.t 9) (.seq (.reg [] [⟨(some 10), .mv (.t 0),none,[]⟩,⟨(some 11), .nilc (.t 10),none,[]⟩,⟨(some 12), .fa 1 (.t 11),none,[]⟩,⟨none, .store 1 (.t 12) (.k (.bool true)),none,[]⟩]) (.ret i_ref14_Writer_bytes_r)) .skip)) (.reg [] [⟨(some 13), .mv (.t 0),none,[]⟩,⟨(some 14), .mv (.t 0),none,[]⟩,⟨(some 15), .nilc (.t 14),none,[]⟩,⟨(some 16), .fa 0 (.t 15),none,[]⟩,⟨(some 17), .load false 1 (.t 16),none,[]⟩,⟨(some 18), .cn (.t 1),none,[]⟩,⟨(some 19), .qcall n_ref02_Bytes [(.t 18)] [],none,[]⟩,⟨(some 20), .app 0 ty_uint8 1 1 (.t 17) (.t 19),none,[]⟩,⟨(some 21), .nilc (.t 13),none,[]⟩,⟨(some 22), .fa 0 (.t 21),none,[]⟩,⟨none, .store 1 (.t 22) (.t 20),none,[]⟩])),
 [], [], false, []⟩

def i_ref02_Bytes_r : List Bool := [o_,o_,i_,o_,o_,o_,o_,o_,o_]
/-- heartwood/heartwoodref02.Bytes -/
def i_ref02_Bytes : Ev.Fn := ⟨1, 9, 2, (.seq (.reg [] [⟨(some 2), .cn (.k (.slice none 0 0)),none,[]⟩]) (.seq (.reg [] [⟨(some 3), .cn (.t 0),none,[]⟩,⟨(some 4), .len false (.t 3),none,[]⟩,⟨(some 5), .conv .u64 (.t 4),none,[]⟩,⟨(some 6), .qcall n_ref02_Number [(.t 5)] [0],none,[]⟩,⟨(some 7), .cn (.t 0),none,[]⟩,⟨(some 8), .app 1 ty_uint8 1 1 (.t 6) (.t 7),none,[]⟩,⟨(some 2), .cn (.t 8), none, [8]⟩]) (.ret i_ref02_Bytes_r))),
 [.tmp 2], [], false, []⟩

def i_ref14_Writer_members_r : List Bool := [o_,o_,o_,o_,o_,o_,o_,o_,o_,o_,o_,o_,o_,o_,o_,o_,o_,o_,o_,o_,o_]
def i_ref14_Writer_members_j1 : List Bool := [i_,i_,o_,o_,i_,o_,o_,o_,o_,o_,o_,o_,o_,o_,o_,o_,o_,o_,o_,o_,o_]
def i_ref14_Writer_members_k0 : List Bool := [i_,i_,o_,o_,i_,o_,o_,o_,o_,o_,o_,o_,o_,o_,o_,o_,o_,o_,o_,o_,o_]
def i_ref14_Writer_members_j0 : List Bool := [o_,o_,o_,o_,o_,o_,o_,o_,o_,o_,o_,o_,o_,o_,o_,o_,o_,o_,o_,o_,o_]
abbrev s_ref14_Writer_members_R (h : Heap) : St := ⟨[u_,u_,u_,u_,u_,u_,u_,u_,u_,u_,u_,u_,u_,u_,u_,u_,u_,u_,u_,u_,u_], h⟩
abbrev s_ref14_Writer_members_K0 (t0 t1 t4 : AV) (h : Heap) : St := ⟨[t0, t1, u_,u_,t4, u_,u_,u_,u_,u_,u_,u_,u_,u_,u_,u_,u_,u_,u_,u_,u_], h⟩
def i_ref14_Writer_members_b0 : IR := (.seq (.seq (.reg [] [⟨(some 9), .mv (.t 4),none,[]⟩,⟨(some 10), .cn (.t 1),none,[]⟩,⟨(some 11), .len false (.t 10),none,[]⟩,⟨(some 12), .bin .plain .lss (.t 9) (.t 11),none,[]⟩]) (.cond (.t 12) .skip (.exit 0 i_ref14_Writer_members_j0))) (.seq (.block 1 i_ref14_Writer_members_j1 (.reg [] [⟨(some 15), .mv (.t 0),none,[]⟩,⟨(some 16), .cn (.t 1),none,[]⟩,⟨(some 17), .mv (.t 4),none,[]⟩,⟨(some 18), .ia 1 (.t 16) (.t 17),none,[]⟩,⟨(some 19), .load false 1 (.t 18),none,[]⟩,⟨(some 20), .call n_ref14_Writer_count [(.t 15), (.t 19)] [1],none,[]⟩])) (.reg [] [⟨(some 13), .mv (.t 4),none,[]⟩,⟨(some 14), .bin .plain .add (.t 13) (.k (.int .i64 1)),none,[]⟩,⟨(some 4), .mv (.t 14),none,[]⟩])))

abbrev s_ref14_Writer_members_J0 (h : Heap) : St := ⟨[u_,u_,u_,u_,u_,u_,u_,u_,u_,u_,u_,u_,u_,u_,u_,u_,u_,u_,u_,u_,u_], h⟩
/-- (*heartwood/heartwoodref14.Writer).members -/
def i_ref14_Writer_members : Ev.Fn := ⟨2, 21, 2, (.seq (.reg [] [⟨(some 5), .mv (.t 0),none,[]⟩,⟨(some 6), .cn (.t 1),none,[]⟩,⟨(some 7), .len false (.t 6),none,[]⟩,⟨(some 8), .call n_ref14_Writer_count [(.t 5), (.t 7)] [0],none,[]⟩]) (.seq (.reg [] [⟨(some 4), .mv (.k (.int .i64 0)),none,[]⟩]) (.block 0 i_ref14_Writer_members_j0 (.loop i_ref14_Writer_members_k0 i_ref14_Writer_members_b0)))),
 [], [], false, []⟩

def i_ref10_Write_r : List Bool := [o_,o_,i_,i_,o_,o_,o_,o_,o_,o_,o_,o_,o_,o_,o_,o_]
/-- heartwood/heartwoodref10.Write -/
def i_ref10_Write : Ev.Fn := ⟨1, 16, 1, (.seq (.reg [] [⟨(some 1), .box 0 5 (.t 0),none,[]⟩,⟨(some 2), .cn (.k (.slice none 0 0)),none,[]⟩,⟨(some 3), .mv (.k (.int .i64 0)),none,[]⟩]) (.seq (.reg [] [⟨(some 6), .load true 5 (.t 1),none,[]⟩,⟨(some 7), .qcall n_ref04_Check [(.t 6)] [],none,[]⟩,⟨(some 4), .mv (.t 7),none,[]⟩]) (.seq (.seq (.reg [] [⟨(some 8), .mv (.t 4),none,[]⟩,⟨(some 9), .bin .plain .neq (.t 8) (.k (.int .i64 0)),none,[]⟩]) (.cond (.t 9) (.seq (.reg [] [⟨(some 10), .mv (.t 4),none,[]⟩,⟨(some 2), .cn (.k (.slice none 0 0)),none,[]⟩,⟨(some 3), .mv (.t 10),none,[]⟩]) (.ret i_ref10_Write_r)) .skip)) (.seq (.reg [] [⟨(some 11), .load true 5 (.t 1),none,[]⟩,⟨(some 12), .qcall n_ref10_long [(.t 11)] [],none,[]⟩,⟨(some 5), .mv (.t 12),none,[]⟩]) (.seq (.seq (.reg [] [⟨(some 13), .mv (.t 5),none,[]⟩]) (.cond (.t 13) (.seq (.reg [] [⟨(some 2), .cn (.k (.slice none 0 0)),none,[]⟩,⟨(some 3), .mv (.k (.int .i64 2)),none,[]⟩]) (.ret i_ref10_Write_r)) .skip)) (.seq (.reg [] [⟨(some 14), .load true 5 (.t 1),none,[]⟩,⟨(some 15), .qcall n_ref10_bytes [(.t 14)] [],none,[]⟩,⟨(some 2), .cn (.t 15),none,[]⟩,⟨(some 3), .mv (.k (.int .i64 0)),none,[]⟩]) (.ret i_ref10_Write_r))))))),
 [.tmp 2, .tmp 3], [], false, []⟩

def i_ref04_Check_r : List Bool := [o_,o_,i_,o_,o_,o_,o_,o_,o_,o_,o_,o_]
/-- heartwood/heartwoodref04.Check -/
def i_ref04_Check : Ev.Fn := ⟨1, 12, 1, (.seq (.reg [] [⟨(some 1), .box 0 5 (.t 0),none,[]⟩,⟨(some 2), .mv (.k (.int .i64 0)),none,[]⟩]) (.seq (.reg [] [⟨(some 5), .load true 5 (.t 1),none,[]⟩,⟨(some 6), .qcall n_ref04_Deep [(.t 5), (.k (.int .i64 64))] [],none,[]⟩,⟨(some 3), .mv (.t 6),none,[]⟩]) (.seq (.seq (.reg [] [⟨(some 7), .mv (.t 3),none,[]⟩]) (.cond (.t 7) (.seq (.reg [] [⟨(some 2), .mv (.k (.int .i64 5)),none,[]⟩]) (.ret i_ref04_Check_r)) .skip)) (.seq (.reg [] [⟨(some 8), .load true 5 (.t 1),none,[]⟩,⟨(some 9), .qcall n_ref04_Formed [(.t 8)] [],none,[]⟩,⟨(some 4), .mv (.t 9),none,[]⟩]) (.seq (.seq (.reg [] [⟨(some 10), .mv (.t 4),none,[]⟩,⟨(some 11), .un .not (.t 10),none,[]⟩]) (.cond (.t 11) (.seq (.reg [] [⟨(some 2), .mv (.k (.int .i64 3)),none,[]⟩]) (.ret i_ref04_Check_r)) .skip)) (.seq (.reg [] [⟨(some 2), .mv (.k (.int .i64 0)),none,[]⟩]) (.ret i_ref04_Check_r))))))),
 [.tmp 2], [], false, []⟩

def i_ref04_Deep_r : List Bool := [o_,o_,o_,o_,i_,o_,o_,o_,o_,o_,o_,o_,o_,o_,o_,o_,o_,o_,o_,o_,o_,o_,o_,o_,o_,o_,o_,o_,o_,o_,o_,o_,o_,o_,o_,o_,o_,o_,o_,o_,o_,o_,o_]
def i_ref04_Deep_j1 : List Bool := [o_,i_,i_,o_,o_,o_,i_,o_,o_,o_,o_,o_,o_,o_,o_,o_,o_,o_,o_,o_,o_,o_,o_,o_,o_,o_,o_,o_,o_,o_,o_,o_,o_,o_,o_,o_,o_,o_,o_,o_,o_,o_,o_]
def i_ref04_Deep_k0 : List Bool := [o_,i_,i_,o_,o_,o_,i_,o_,o_,o_,o_,o_,o_,o_,o_,o_,o_,o_,o_,o_,o_,o_,o_,o_,o_,o_,o_,o_,o_,o_,o_,o_,o_,o_,o_,o_,o_,o_,o_,o_,o_,o_,o_]
def i_ref04_Deep_j0 : List Bool := [o_,o_,o_,o_,o_,o_,o_,o_,o_,o_,o_,o_,o_,o_,o_,o_,o_,o_,o_,o_,o_,o_,o_,o_,o_,o_,o_,o_,o_,o_,o_,o_,o_,o_,o_,o_,o_,o_,o_,o_,o_,o_,o_]
abbrev s_ref04_Deep_R (t4 : AV) (h : Heap) : St := ⟨[u_,u_,u_,u_,t4, u_,u_,u_,u_,u_,u_,u_,u_,u_,u_,u_,u_,u_,u_,u_,u_,u_,u_,u_,u_,u_,u_,u_,u_,u_,u_,u_,u_,u_,u_,u_,u_,u_,u_,u_,u_,u_,u_], h⟩
abbrev s_ref04_Deep_K0 (t1 t2 t6 : AV) (h : Heap) : St := ⟨[u_,t1, t2, u_,u_,u_,t6, u_,u_,u_,u_,u_,u_,u_,u_,u_,u_,u_,u_,u_,u_,u_,u_,u_,u_,u_,u_,u_,u_,u_,u_,u_,u_,u_,u_,u_,u_,u_,u_,u_,u_,u_,u_], h⟩
def i_ref04_Deep_b0 : IR := (.seq (.seq (.reg [] [⟨(some 27), .mv (.t 6),none,[]⟩,⟨(some 28), .fa 4 (.t 2),none,[]⟩,⟨(some 29), .load false 1 (.t 28),none,[]⟩,⟨(some 30), .len false (.t 29),none,[]⟩,⟨(some 31), .bin .plain .lss (.t 27) (.t 30),none,[]⟩]) (.cond (.t 31) .skip (.exit 0 i_ref04_Deep_j0))) (.seq (.block 1 i_ref04_Deep_j1 (.seq (.reg [] [⟨(some 34), .fa 4 (.t 2),none,[]⟩,⟨(some 35), .load false 1 (.t 34),none,[]⟩,⟨(some 36), .mv (.t 6),none,[]⟩,⟨(some 37), .ia 5 (.t 35) (.t 36),none,[]⟩,⟨(some 38), .load true 5 (.t 37),none,[]⟩,⟨(some 39), .mv (.t 1),none,[]⟩,⟨(some 40), .bin .plain .sub (.t 39) (.k (.int .i64 1)),none,[]⟩,⟨(some 41), .qcall n_ref04_Deep [(.t 38), (.t 40)] [],none,[]⟩,⟨(some 7), .mv (.t 41),none,[]⟩]) (.seq (.reg [] [⟨(some 42), .mv (.t 7),none,[]⟩]) (.cond (.t 42) (.seq (.reg [] [⟨(some 4), .mv (.k (.bool true)),none,[]⟩]) (.ret i_ref04_Deep_r)) .skip)))) (.reg [] [⟨(some 32), .mv (.t 6),none,[]⟩,⟨(some 33), .bin .plain .add (.t 32) (.k (.int .i64 1)),none,[]⟩,⟨(some 6), .mv (.t 33),none,[]⟩])))

abbrev s_ref04_Deep_J0 (h : Heap) : St := ⟨[u_,u_,u_,u_,u_,u_,u_,u_,u_,u_,u_,u_,u_,u_,u_,u_,u_,u_,u_,u_,u_,u_,u_,u_,u_,u_,u_,u_,u_,u_,u_,u_,u_,u_,u_,u_,u_,u_,u_,u_,u_,u_,u_], h⟩
/-- heartwood/heartwoodref04.Deep -/
def i_ref04_Deep : Ev.Fn := ⟨2, 43, 1, (.seq (.reg [] [⟨(some 2), .box 0 5 (.t 0),none,[]⟩,⟨(some 4), .mv (.k (.bool false)),none,[]⟩]) (.seq (.reg [] [⟨(some 8), .fa 0 (.t 2),none,[]⟩,⟨(some 9), .load false 1 (.t 8),none,[]⟩,⟨(some 10), .bin .plain .eql (.t 9) (.k (.int .i64 1)),none,[]⟩,⟨(some 11), .mv (.t 10),none,[]⟩,⟨(some 12), .fa 0 (.t 2), (some (11, false)), []⟩,⟨(some 13), .load false 1 (.t 12), (some (11, false)), []⟩,⟨(some 14), .bin .plain .eql (.t 13) (.k (.int .i64 2)), (some (11, false)), []⟩,⟨(some 15), .pick (.t 11) (.k (.bool true)) (.t 14),none,[]⟩,⟨(some 16), .mv (.t 15),none,[]⟩,⟨(some 17), .fa 4 (.t 2), (some (16, false)), []⟩,⟨(some 18), .load false 1 (.t 17), (some (16, false)), []⟩,⟨(some 19), .len false (.t 18), (some (16, false)), []⟩,⟨(some 20), .bin .plain .gtr (.t 19) (.k (.int .i64 0)), (some (16, false)), []⟩,⟨(some 21), .pick (.t 16) (.k (.bool true)) (.t 20),none,[]⟩,⟨(some 5), .mv (.t 21),none,[]⟩]) (.seq (.seq (.reg [] [⟨(some 22), .mv (.t 5),none,[]⟩,⟨(some 23), .mv (.t 22),none,[]⟩,⟨(some 24), .mv (.t 1), (some (23, true)), []⟩,⟨(some 25), .bin .plain .eql (.t 24) (.k (.int .i64 0)), (some (23, true)), []⟩,⟨(some 26), .pick (.t 23) (.t 25) (.k (.bool false)),none,[]⟩]) (.cond (.t 26) (.seq (.reg [] [⟨(some 4), .mv (.k (.bool true)),none,[]⟩]) (.ret i_ref04_Deep_r)) .skip)) (.seq (.seq (.reg [] [⟨(some 6), .mv (.k (.int .i64 0)),none,[]⟩]) (.block 0 i_ref04_Deep_j0 (.loop i_ref04_Deep_k0 i_ref04_Deep_b0))) (.seq (.reg [] [⟨(some 4), .mv (.k (.bool false)),none,[]⟩]) (.ret i_ref04_Deep_r)))))),
 [.tmp 4], [], false, []⟩

def i_ref04_Formed_r : List Bool := [o_,o_,i_,o_,o_,o_,o_,o_,o_,o_,o_,o_,o_,o_,o_,o_,o_,o_,o_,o_,o_,o_,o_,o_,o_,o_,o_,o_,o_,o_,o_,o_,o_,o_,o_,o_,o_,o_,o_,o_,o_,o_,o_,o_,o_,o_,o_,o_,o_,o_,o_,o_,o_,o_,o_,o_,o_,o_,o_,o_,o_,o_,o_,o_,o_,o_,o_,o_,o_,o_,o_,o_,o_,o_,o_,o_,o_,o_,o_,o_,o_,o_,o_,o_,o_,o_,o_,o_,o_,o_,o_,o_,o_,o_]
def i_ref04_Formed_j0 : List Bool := [o_,i_,o_,o_,o_,o_,i_,i_,o_,o_,o_,o_,o_,o_,o_,o_,o_,o_,o_,o_,o_,o_,o_,o_,o_,o_,o_,o_,o_,o_,o_,o_,o_,o_,o_,o_,o_,o_,o_,o_,o_,o_,o_,o_,o_,o_,o_,o_,o_,o_,o_,o_,o_,o_,o_,o_,o_,o_,o_,o_,o_,o_,o_,o_,o_,o_,o_,o_,o_,o_,o_,o_,o_,o_,o_,o_,o_,o_,o_,o_,o_,o_,o_,o_,o_,o_,o_,o_,o_,o_,o_,o_,o_,o_]
def i_ref04_Formed_j2 : List Bool := [o_,i_,o_,o_,o_,o_,i_,i_,i_,o_,o_,o_,o_,o_,o_,o_,o_,o_,o_,o_,o_,o_,o_,o_,o_,o_,o_,o_,o_,o_,o_,o_,o_,o_,o_,o_,o_,o_,o_,o_,o_,o_,o_,o_,o_,o_,o_,o_,o_,o_,o_,o_,o_,o_,o_,o_,o_,o_,o_,o_,o_,o_,o_,o_,o_,o_,o_,o_,o_,o_,o_,o_,o_,o_,o_,o_,o_,o_,o_,o_,o_,o_,o_,o_,o_,o_,o_,o_,o_,o_,o_,o_,o_,o_]
def i_ref04_Formed_k0 : List Bool := [o_,i_,o_,o_,o_,o_,i_,i_,i_,o_,o_,o_,o_,o_,o_,o_,o_,o_,o_,o_,o_,o_,o_,o_,o_,o_,o_,o_,o_,o_,o_,o_,o_,o_,o_,o_,o_,o_,o_,o_,o_,o_,o_,o_,o_,o_,o_,o_,o_,o_,o_,o_,o_,o_,o_,o_,o_,o_,o_,o_,o_,o_,o_,o_,o_,o_,o_,o_,o_,o_,o_,o_,o_,o_,o_,o_,o_,o_,o_,o_,o_,o_,o_,o_,o_,o_,o_,o_,o_,o_,o_,o_,o_,o_]
def i_ref04_Formed_j1 : List Bool := [o_,o_,o_,o_,o_,o_,o_,i_,o_,o_,o_,o_,o_,o_,o_,o_,o_,o_,o_,o_,o_,o_,o_,o_,o_,o_,o_,o_,o_,o_,o_,o_,o_,o_,o_,o_,o_,o_,o_,o_,o_,o_,o_,o_,o_,o_,o_,o_,o_,o_,o_,o_,o_,o_,o_,o_,o_,o_,o_,o_,o_,o_,o_,o_,o_,o_,o_,o_,o_,o_,o_,o_,o_,o_,o_,o_,o_,o_,o_,o_,o_,o_,o_,o_,o_,o_,o_,o_,o_,o_,o_,o_,o_,o_]
abbrev s_ref04_Formed_R (t2 : AV) (h : Heap) : St := ⟨[u_,u_,t2, u_,u_,u_,u_,u_,u_,u_,u_,u_,u_,u_,u_,u_,u_,u_,u_,u_,u_,u_,u_,u_,u_,u_,u_,u_,u_,u_,u_,u_,u_,u_,u_,u_,u_,u_,u_,u_,u_,u_,u_,u_,u_,u_,u_,u_,u_,u_,u_,u_,u_,u_,u_,u_,u_,u_,u_,u_,u_,u_,u_,u_,u_,u_,u_,u_,u_,u_,u_,u_,u_,u_,u_,u_,u_,u_,u_,u_,u_,u_,u_,u_,u_,u_,u_,u_,u_,u_,u_,u_,u_,u_], h⟩
abbrev s_ref04_Formed_K0 (t1 t6 t7 t8 : AV) (h : Heap) : St := ⟨[u_,t1, u_,u_,u_,u_,t6, t7, t8, u_,u_,u_,u_,u_,u_,u_,u_,u_,u_,u_,u_,u_,u_,u_,u_,u_,u_,u_,u_,u_,u_,u_,u_,u_,u_,u_,u_,u_,u_,u_,u_,u_,u_,u_,u_,u_,u_,u_,u_,u_,u_,u_,u_,u_,u_,u_,u_,u_,u_,u_,u_,u_,u_,u_,u_,u_,u_,u_,u_,u_,u_,u_,u_,u_,u_,u_,u_,u_,u_,u_,u_,u_,u_,u_,u_,u_,u_,u_,u_,u_,u_,u_,u_,u_], h⟩
def i_ref04_Formed_b0 : IR := (.seq (.seq (.reg [] [⟨(some 79), .mv (.t 8),none,[]⟩,⟨(some 80), .mv (.t 6),none,[]⟩,⟨(some 81), .bin .plain .lss (.t 79) (.t 80),none,[]⟩,⟨(some 82), .mv (.t 81),none,[]⟩,⟨(some 83), .mv (.t 7), (some (82, true)), []⟩,⟨(some 84), .pick (.t 82) (.t 83) (.k (.bool false)),none,[]⟩]) (.cond (.t 84) .skip (.exit 1 i_ref04_Formed_j1))) (.seq (.block 2 i_ref04_Formed_j2 (.reg [] [⟨(some 87), .fa 4 (.t 1),none,[]⟩,⟨(some 88), .load false 1 (.t 87),none,[]⟩,⟨(some 89), .mv (.t 8),none,[]⟩,⟨(some 90), .ia 5 (.t 88) (.t 89),none,[]⟩,⟨(some 91), .load true 5 (.t 90),none,[]⟩,⟨(some 92), .qcall n_ref04_Formed [(.t 91)] [],none,[]⟩,⟨(some 7), .mv (.t 92),none,[]⟩])) (.reg [] [⟨(some 85), .mv (.t 8),none,[]⟩,⟨(some 86), .bin .plain .add (.t 85) (.k (.int .i64 1)),none,[]⟩,⟨(some 8), .mv (.t 86),none,[]⟩])))

abbrev s_ref04_Formed_J1 (t7 : AV) (h : Heap) : St := ⟨[u_,u_,u_,u_,u_,u_,u_,t7, u_,u_,u_,u_,u_,u_,u_,u_,u_,u_,u_,u_,u_,u_,u_,u_,u_,u_,u_,u_,u_,u_,u_,u_,u_,u_,u_,u_,u_,u_,u_,u_,u_,u_,u_,u_,u_,u_,u_,u_,u_,u_,u_,u_,u_,u_,u_,u_,u_,u_,u_,u_,u_,u_,u_,u_,u_,u_,u_,u_,u_,u_,u_,u_,u_,u_,u_,u_,u_,u_,u_,u_,u_,u_,u_,u_,u_,u_,u_,u_,u_,u_,u_,u_,u_,u_], h⟩
/-- heartwood/heartwoodref04.Formed -/
def i_ref04_Formed : Ev.Fn := ⟨1, 94, 1, (.seq (.reg [] [⟨(some 1), .box 0 5 (.t 0),none,[]⟩,⟨(some 2), .mv (.k (.bool false)),none,[]⟩]) (.seq (.reg [] [⟨(some 9), .fa 1 (.t 1),none,[]⟩,⟨(some 10), .load false 1 (.t 9),none,[]⟩,⟨(some 11), .len false (.t 10),none,[]⟩,⟨(some 3), .mv (.t 11),none,[]⟩]) (.seq (.reg [] [⟨(some 12), .fa 2 (.t 1),none,[]⟩,⟨(some 13), .load false 1 (.t 12),none,[]⟩,⟨(some 14), .len false (.t 13),none,[]⟩,⟨(some 4), .mv (.t 14),none,[]⟩]) (.seq (.reg [] [⟨(some 15), .fa 3 (.t 1),none,[]⟩,⟨(some 16), .load false 1 (.t 15),none,[]⟩,⟨(some 17), .len false (.t 16),none,[]⟩,⟨(some 5), .mv (.t 17),none,[]⟩]) (.seq (.reg [] [⟨(some 18), .fa 4 (.t 1),none,[]⟩,⟨(some 19), .load false 1 (.t 18),none,[]⟩,⟨(some 20), .len false (.t 19),none,[]⟩,⟨(some 6), .mv (.t 20),none,[]⟩]) (.seq (.reg [] [⟨(some 7), .mv (.k (.bool false)),none,[]⟩]) (.seq (.seq (.reg [] [⟨(some 21), .fa 0 (.t 1),none,[]⟩,⟨(some 22), .load false 1 (.t 21),none,[]⟩]) (.block 0 i_ref04_Formed_j0 (.seq (.reg [] [⟨(some 24), .bin .plain .eql (.t 22) (.k (.int .i64 0)),none,[]⟩,⟨(some 23), .mv (.t 24),none,[]⟩]) (.cond (.t 23) (.reg [] [⟨(some 25), .mv (.t 3),none,[]⟩,⟨(some 26), .bin .plain .eql (.t 25) (.k (.int .i64 0)),none,[]⟩,⟨(some 27), .mv (.t 26),none,[]⟩,⟨(some 28), .mv (.t 4), (some (27, true)), []⟩,⟨(some 29), .bin .plain .eql (.t 28) (.k (.int .i64 0)), (some (27, true)), []⟩,⟨(some 30), .pick (.t 27) (.t 29) (.k (.bool false)),none,[]⟩,⟨(some 31), .mv (.t 30),none,[]⟩,⟨(some 32), .mv (.t 5), (some (31, true)), []⟩,⟨(some 33), .bin .plain .eql (.t 32) (.k (.int .i64 0)), (some (31, true)), []⟩,⟨(some 34), .pick (.t 31) (.t 33) (.k (.bool false)),none,[]⟩,⟨(some 35), .mv (.t 34),none,[]⟩,⟨(some 36), .mv (.t 6), (some (35, true)), []⟩,⟨(some 37), .bin .plain .eql (.t 36) (.k (.int .i64 0)), (some (35, true)), []⟩,⟨(some 38), .pick (.t 35) (.t 37) (.k (.bool false)),none,[]⟩,⟨(some 7), .mv (.t 38),none,[]⟩]) (.seq (.reg [] [⟨(some 40), .bin .plain .eql (.t 22) (.k (.int .i64 1)),none,[]⟩,⟨(some 39), .mv (.t 40),none,[]⟩]) (.cond (.t 39) (.reg [] [⟨(some 41), .mv (.t 3),none,[]⟩,⟨(some 42), .bin .plain .leq (.t 41) (.k (.int .i64 80)),none,[]⟩,⟨(some 43), .mv (.t 42),none,[]⟩,⟨(some 44), .mv (.t 4), (some (43, true)), []⟩,⟨(some 45), .bin .plain .leq (.t 44) (.k (.int .i64 1024)), (some (43, true)), []⟩,⟨(some 46), .pick (.t 43) (.t 45) (.k (.bool false)),none,[]⟩,⟨(some 47), .mv (.t 46),none,[]⟩,⟨(some 48), .mv (.t 5), (some (47, true)), []⟩,⟨(some 49), .bin .plain .eql (.t 48) (.k (.int .i64 0)), (some (47, true)), []⟩,⟨(some 50), .pick (.t 47) (.t 49) (.k (.bool false)),none,[]⟩,⟨(some 51), .mv (.t 50),none,[]⟩,⟨(some 52), .mv (.t 6), (some (51, true)), []⟩,⟨(some 53), .bin .plain .eql (.t 52) (.k (.int .i64 2)), (some (51, true)), []⟩,⟨(some 54), .pick (.t 51) (.t 53) (.k (.bool false)),none,[]⟩,⟨(some 7), .mv (.t 54),none,[]⟩]) (.seq (.reg [] [⟨(some 56), .bin .plain .eql (.t 22) (.k (.int .i64 2)),none,[]⟩,⟨(some 55), .mv (.t 56),none,[]⟩]) (.cond (.t 55) (.reg [] [⟨(some 57), .mv (.t 3),none,[]⟩,⟨(some 58), .bin .plain .leq (.t 57) (.k (.int .i64 80)),none,[]⟩,⟨(some 59), .mv (.t 58),none,[]⟩,⟨(some 60), .mv (.t 4), (some (59, true)), []⟩,⟨(some 61), .bin .plain .eql (.t 60) (.k (.int .i64 0)), (some (59, true)), []⟩,⟨(some 62), .pick (.t 59) (.t 61) (.k (.bool false)),none,[]⟩,⟨(some 63), .mv (.t 62),none,[]⟩,⟨(some 64), .mv (.t 6), (some (63, true)), []⟩,⟨(some 65), .bin .plain .eql (.t 64) (.k (.int .i64 2)), (some (63, true)), []⟩,⟨(some 66), .pick (.t 63) (.t 65) (.k (.bool false)),none,[]⟩,⟨(some 7), .mv (.t 66),none,[]⟩]) (.seq (.reg [] [⟨(some 68), .bin .plain .eql (.t 22) (.k (.int .i64 3)),none,[]⟩,⟨(some 67), .mv (.t 68),none,[]⟩]) (.cond (.t 67) (.reg [] [⟨(some 69), .mv (.t 3),none,[]⟩,⟨(some 70), .bin .plain .eql (.t 69) (.k (.int .i64 0)),none,[]⟩,⟨(some 71), .mv (.t 70),none,[]⟩,⟨(some 72), .mv (.t 4), (some (71, true)), []⟩,⟨(some 73), .bin .plain .eql (.t 72) (.k (.int .i64 0)), (some (71, true)), []⟩,⟨(some 74), .pick (.t 71) (.t 73) (.k (.bool false)),none,[]⟩,⟨(some 75), .mv (.t 74),none,[]⟩,⟨(some 76), .mv (.t 6), (some (75, true)), []⟩,⟨(some 77), .bin .plain .eql (.t 76) (.k (.int .i64 0)), (some (75, true)), []⟩,⟨(some 78), .pick (.t 75) (.t 77) (.k (.bool false)),none,[]⟩,⟨(some 7), .mv (.t 78),none,[]⟩]) .skip)))))))))) (.seq (.seq (.reg [] [⟨(some 8), .mv (.k (.int .i64 0)),none,[]⟩]) (.block 1 i_ref04_Formed_j1 (.loop i_ref04_Formed_k0 i_ref04_Formed_b0))) (.seq (.reg [] [⟨(some 93), .mv (.t 7),none,[]⟩,⟨(some 2), .mv (.t 93),none,[]⟩]) (.ret i_ref04_Formed_r)))))))))),
 [.tmp 2], [], false, []⟩

def i_ref10_long_r : List Bool := [o_,o_,i_,o_,o_,o_,o_,o_,o_,o_,o_,o_,o_,o_,o_,o_,o_,o_,o_,o_,o_,o_,o_]
def i_ref10_long_j1 : List Bool := [o_,i_,o_,i_,o_,o_,o_,o_,o_,o_,o_,o_,o_,o_,o_,o_,o_,o_,o_,o_,o_,o_,o_]
def i_ref10_long_k0 : List Bool := [o_,i_,o_,i_,o_,o_,o_,o_,o_,o_,o_,o_,o_,o_,o_,o_,o_,o_,o_,o_,o_,o_,o_]
def i_ref10_long_j0 : List Bool := [o_,o_,o_,o_,o_,o_,o_,o_,o_,o_,o_,o_,o_,o_,o_,o_,o_,o_,o_,o_,o_,o_,o_]
abbrev s_ref10_long_R (t2 : AV) (h : Heap) : St := ⟨[u_,u_,t2, u_,u_,u_,u_,u_,u_,u_,u_,u_,u_,u_,u_,u_,u_,u_,u_,u_,u_,u_,u_], h⟩
abbrev s_ref10_long_K0 (t1 t3 : AV) (h : Heap) : St := ⟨[u_,t1, u_,t3, u_,u_,u_,u_,u_,u_,u_,u_,u_,u_,u_,u_,u_,u_,u_,u_,u_,u_,u_], h⟩
def i_ref10_long_b0 : IR := (.seq (.seq (.reg [] [⟨(some 9), .mv (.t 3),none,[]⟩,⟨(some 10), .fa 4 (.t 1),none,[]⟩,⟨(some 11), .load false 1 (.t 10),none,[]⟩,⟨(some 12), .len false (.t 11),none,[]⟩,⟨(some 13), .bin .plain .lss (.t 9) (.t 12),none,[]⟩]) (.cond (.t 13) .skip (.exit 0 i_ref10_long_j0))) (.seq (.block 1 i_ref10_long_j1 (.seq (.reg [] [⟨(some 16), .fa 4 (.t 1),none,[]⟩,⟨(some 17), .load false 1 (.t 16),none,[]⟩,⟨(some 18), .mv (.t 3),none,[]⟩,⟨(some 19), .ia 5 (.t 17) (.t 18),none,[]⟩,⟨(some 20), .load true 5 (.t 19),none,[]⟩,⟨(some 21), .qcall n_ref10_long [(.t 20)] [],none,[]⟩,⟨(some 4), .mv (.t 21),none,[]⟩]) (.seq (.reg [] [⟨(some 22), .mv (.t 4),none,[]⟩]) (.cond (.t 22) (.seq (.reg [] [⟨(some 2), .mv (.k (.bool true)),none,[]⟩]) (.ret i_ref10_long_r)) .skip)))) (.reg [] [⟨(some 14), .mv (.t 3),none,[]⟩,⟨(some 15), .bin .plain .add (.t 14) (.k (.int .i64 1)),none,[]⟩,⟨(some 3), .mv (.t 15),none,[]⟩])))

abbrev s_ref10_long_J0 (h : Heap) : St := ⟨[u_,u_,u_,u_,u_,u_,u_,u_,u_,u_,u_,u_,u_,u_,u_,u_,u_,u_,u_,u_,u_,u_,u_], h⟩
/-- heartwood/heartwoodref10.long -/
def i_ref10_long : Ev.Fn := ⟨1, 23, 1, (.seq (.reg [] [⟨(some 1), .box 0 5 (.t 0),none,[]⟩,⟨(some 2), .mv (.k (.bool false)),none,[]⟩]) (.seq (.seq (.reg [] [⟨(some 5), .fa 3 (.t 1),none,[]⟩,⟨(some 6), .load false 1 (.t 5),none,[]⟩,⟨(some 7), .len false (.t 6),none,[]⟩,⟨(some 8), .bin .plain .gtr (.t 7) (.k (.int .i64 32)),none,[]⟩]) (.cond (.t 8) (.seq (.reg [] [⟨(some 2), .mv (.k (.bool true)),none,[]⟩]) (.ret i_ref10_long_r)) .skip)) (.seq (.seq (.reg [] [⟨(some 3), .mv (.k (.int .i64 0)),none,[]⟩]) (.block 0 i_ref10_long_j0 (.loop i_ref10_long_k0 i_ref10_long_b0))) (.seq (.reg [] [⟨(some 2), .mv (.k (.bool false)),none,[]⟩]) (.ret i_ref10_long_r))))),
 [.tmp 2], [], false, []⟩

def i_ref10_bytes_r : List Bool := [o_,o_,i_,o_,o_,o_,o_,o_,o_,o_,o_,o_,o_,o_,o_,o_,o_,o_,o_,o_,o_,o_,o_,o_,o_,o_,o_,o_,o_,o_,o_,o_,o_,o_,o_,o_,o_,o_,o_,o_,o_,o_,o_,o_,o_,o_,o_,o_,o_,o_,o_,o_,o_,o_]
def i_ref10_bytes_j1 : List Bool := [o_,i_,o_,i_,i_,o_,o_,o_,o_,o_,o_,o_,o_,o_,o_,o_,o_,o_,o_,o_,o_,o_,o_,o_,o_,o_,o_,o_,o_,o_,o_,o_,o_,o_,o_,o_,o_,o_,o_,o_,o_,o_,o_,o_,o_,o_,o_,o_,o_,o_,o_,o_,o_,o_]
def i_ref10_bytes_k0 : List Bool := [o_,i_,o_,i_,i_,o_,o_,o_,o_,o_,o_,o_,o_,o_,o_,o_,o_,o_,o_,o_,o_,o_,o_,o_,o_,o_,o_,o_,o_,o_,o_,o_,o_,o_,o_,o_,o_,o_,o_,o_,o_,o_,o_,o_,o_,o_,o_,o_,o_,o_,o_,o_,o_,o_]
def i_ref10_bytes_j0 : List Bool := [o_,o_,o_,i_,o_,o_,o_,o_,o_,o_,o_,o_,o_,o_,o_,o_,o_,o_,o_,o_,o_,o_,o_,o_,o_,o_,o_,o_,o_,o_,o_,o_,o_,o_,o_,o_,o_,o_,o_,o_,o_,o_,o_,o_,o_,o_,o_,o_,o_,o_,o_,o_,o_,o_]
abbrev s_ref10_bytes_R (t2 : AV) (h : Heap) : St := ⟨[u_,u_,t2, u_,u_,u_,u_,u_,u_,u_,u_,u_,u_,u_,u_,u_,u_,u_,u_,u_,u_,u_,u_,u_,u_,u_,u_,u_,u_,u_,u_,u_,u_,u_,u_,u_,u_,u_,u_,u_,u_,u_,u_,u_,u_,u_,u_,u_,u_,u_,u_,u_,u_,u_], h⟩
abbrev s_ref10_bytes_K0 (t1 t3 t4 : AV) (h : Heap) : St := ⟨[u_,t1, u_,t3, t4, u_,u_,u_,u_,u_,u_,u_,u_,u_,u_,u_,u_,u_,u_,u_,u_,u_,u_,u_,u_,u_,u_,u_,u_,u_,u_,u_,u_,u_,u_,u_,u_,u_,u_,u_,u_,u_,u_,u_,u_,u_,u_,u_,u_,u_,u_,u_,u_,u_], h⟩
def i_ref10_bytes_b0 : IR := (.seq (.seq (.reg [] [⟨(some 38), .mv (.t 4),none,[]⟩,⟨(some 39), .fa 4 (.t 1),none,[]⟩,⟨(some 40), .load false 1 (.t 39),none,[]⟩,⟨(some 41), .len false (.t 40),none,[]⟩,⟨(some 42), .bin .plain .lss (.t 38) (.t 41),none,[]⟩]) (.cond (.t 42) .skip (.exit 0 i_ref10_bytes_j0))) (.seq (.block 1 i_ref10_bytes_j1 (.reg [] [⟨(some 45), .mv (.t 3),none,[]⟩,⟨(some 46), .fa 4 (.t 1),none,[]⟩,⟨(some 47), .load false 1 (.t 46),none,[]⟩,⟨(some 48), .mv (.t 4),none,[]⟩,⟨(some 49), .ia 5 (.t 47) (.t 48),none,[]⟩,⟨(some 50), .load true 5 (.t 49),none,[]⟩,⟨(some 51), .qcall n_ref10_bytes [(.t 50)] [],none,[]⟩,⟨(some 52), .app 1 ty_uint8 1 1 (.t 45) (.t 51),none,[]⟩,⟨(some 3), .mv (.t 52),none,[]⟩])) (.reg [] [⟨(some 43), .mv (.t 4),none,[]⟩,⟨(some 44), .bin .plain .add (.t 43) (.k (.int .i64 1)),none,[]⟩,⟨(some 4), .mv (.t 44),none,[]⟩])))

abbrev s_ref10_bytes_J0 (t3 : AV) (h : Heap) : St := ⟨[u_,u_,u_,t3, u_,u_,u_,u_,u_,u_,u_,u_,u_,u_,u_,u_,u_,u_,u_,u_,u_,u_,u_,u_,u_,u_,u_,u_,u_,u_,u_,u_,u_,u_,u_,u_,u_,u_,u_,u_,u_,u_,u_,u_,u_,u_,u_,u_,u_,u_,u_,u_,u_,u_], h⟩
/-- heartwood/heartwoodref10.bytes -/
def i_ref10_bytes : Ev.Fn := ⟨1, 54, 2, (.seq (.reg [] [⟨(some 1), .box 0 5 (.t 0),none,[]⟩,⟨(some 2), .cn (.k (.slice none 0 0)),none,[]⟩]) (.seq (.reg [] [⟨(some 5), .fa 0 (.t 1),none,[]⟩,⟨(some 6), .load false 1 (.t 5),none,[]⟩,⟨(some 7), .conv .u8 (.t 6),none,[]⟩,⟨(some 8), .lit 1 ty_uint8 1 1 [(.int .u8 0)] [(0, (.t 7))],none,[]⟩,⟨(some 3), .mv (.t 8),none,[]⟩]) (.seq (.seq (.reg [] [⟨(some 9), .fa 0 (.t 1),none,[]⟩,⟨(some 10), .load false 1 (.t 9),none,[]⟩,⟨(some 11), .bin .plain .eql (.t 10) (.k (.int .i64 1)),none,[]⟩,⟨(some 12), .mv (.t 11),none,[]⟩,⟨(some 13), .fa 0 (.t 1), (some (12, false)), []⟩,⟨(some 14), .load false 1 (.t 13), (some (12, false)), []⟩,⟨(some 15), .bin .plain .eql (.t 14) (.k (.int .i64 2)), (some (12, false)), []⟩,⟨(some 16), .pick (.t 12) (.k (.bool true)) (.t 15),none,[]⟩]) (.cond (.t 16) (.reg [] [⟨(some 17), .mv (.t 3),none,[]⟩,⟨(some 18), .fa 1 (.t 1),none,[]⟩,⟨(some 19), .load false 1 (.t 18),none,[]⟩,⟨(some 20), .qcall n_ref02_Bytes [(.t 19)] [],none,[]⟩,⟨(some 21), .app 1 ty_uint8 1 1 (.t 17) (.t 20),none,[]⟩,⟨(some 3), .mv (.t 21),none,[]⟩]) .skip)) (.seq (.seq (.reg [] [⟨(some 22), .fa 0 (.t 1),none,[]⟩,⟨(some 23), .load false 1 (.t 22),none,[]⟩,⟨(some 24), .bin .plain .eql (.t 23) (.k (.int .i64 1)),none,[]⟩]) (.cond (.t 24) (.reg [] [⟨(some 25), .mv (.t 3),none,[]⟩,⟨(some 26), .fa 2 (.t 1),none,[]⟩,⟨(some 27), .load false 1 (.t 26),none,[]⟩,⟨(some 28), .qcall n_ref02_Bytes [(.t 27)] [],none,[]⟩,⟨(some 29), .app 1 ty_uint8 1 1 (.t 25) (.t 28),none,[]⟩,⟨(some 3), .mv (.t 29),none,[]⟩]) .skip)) (.seq (.seq (.reg [] [⟨(some 30), .fa 0 (.t 1),none,[]⟩,⟨(some 31), .load false 1 (.t 30),none,[]⟩,⟨(some 32), .bin .plain .gtr (.t 31) (.k (.int .i64 1)),none,[]⟩]) (.cond (.t 32) (.reg [] [⟨(some 33), .mv (.t 3),none,[]⟩,⟨(some 34), .fa 3 (.t 1),none,[]⟩,⟨(some 35), .load false 1 (.t 34),none,[]⟩,⟨(some 36), .qcall n_ref02_Bytes [(.t 35)] [],none,[]⟩,⟨(some 37), .app 1 ty_uint8 1 1 (.t 33) (.t 36),none,[]⟩,⟨(some 3), .mv (.t 37),none,[]⟩]) .skip)) (.seq (.seq (.reg [] [⟨(some 4), .mv (.k (.int .i64 0)),none,[]⟩]) (.block 0 i_ref10_bytes_j0 (.loop i_ref10_bytes_k0 i_ref10_bytes_b0))) (.seq (.reg [] [⟨(some 53), .cn (.t 3), none, [3]⟩,⟨(some 2), .cn (.t 53), none, [53]⟩]) (.ret i_ref10_bytes_r)))))))),
 [.tmp 2], [], false, []⟩

def i_ref14_Writer_end_r : List Bool := [o_,o_,i_,i_,o_,o_,o_,o_,o_,o_,o_,o_,o_,o_,o_,o_,o_,o_]
/-- (*heartwood/heartwoodref14.Writer).end -/
def i_ref14_Writer_end : Ev.Fn := ⟨1, 18, 0, (.seq (.reg [] [⟨(some 2), .cn (.k (.slice none 0 0)),none,[]⟩,⟨(some 3), .mv (.k (.int .i64 0)),none,[]⟩]) (.seq (.seq (.reg [] [⟨(some 4), .mv (.t 0),none,[]⟩,⟨(some 5), .nilc (.t 4),none,[]⟩,⟨(some 6), .fa 1 (.t 5),none,[]⟩,⟨(some 7), .load false 1 (.t 6),none,[]⟩]) (.cond (.t 7) (.seq (.reg [] [⟨(some 2), .cn (.k (.slice none 0 0)),none,[]⟩,⟨(some 3), .mv (.k (.int .i64 1)),none,[]⟩]) (.ret i_ref14_Writer_end_r)) .skip)) (.seq (.seq (.reg [] [⟨(some 8), .mv (.t 0),none,[]⟩,⟨(some 9), .nilc (.t 8),none,[]⟩,⟨(some 10), .fa 0 (.t 9),none,[]⟩,⟨(some 11), .load false 1 (.t 10),none,[]⟩,⟨(some 12), .len false (.t 11),none,[]⟩,⟨(some 13), .bin .plain .gtr (.t 12) (.k (.int .i64 1048576)),none,[]⟩]) (.cond (.t 13) (.seq (.reg [] [⟨(some 2), .cn (.k (.slice none 0 0)),none,[]⟩,⟨(some 3), .mv (.k (.int .i64 2)),none,[]⟩]) (.ret i_ref14_Writer_end_r)) .skip)) (.seq (.reg [] [⟨(some 14), .mv (.t 0),none,[]⟩,⟨(some 15), .nilc (.t 14),none,[]⟩,⟨(some 16), .fa 0 (.t 15),none,[]⟩,⟨(some 17), .load false 1 (.t 16),none,[]⟩,⟨(some 2), .cn (.t 17), none, [17]⟩,⟨(some 3), .mv (.k (.int .i64 0)),none,[]⟩]) (.ret i_ref14_Writer_end_r))))),
 [.tmp 2, .tmp 3], [], false, []⟩

def i_entry_Write_r : List Bool := [o_,o_,i_,i_,o_,o_,o_,o_,o_,o_,o_,o_,o_,o_,o_,o_,o_,o_,o_,o_,o_,o_,o_,o_,o_,o_,o_,o_,o_,o_,o_,o_,o_,o_,o_,o_,o_,o_,o_,o_,o_,o_,o_,o_,o_,o_,o_,o_,o_,o_,o_,o_,o_,o_,o_,o_,o_,o_,o_,o_,o_,o_,o_,o_,o_,o_,o_,o_,o_,o_,o_,o_,o_,o_,o_,o_,o_,o_,o_,o_,o_,o_]
/-- heartwood/entry.Write -/
def i_entry_Write : Ev.Fn := ⟨1, 82, 10, (.seq (.reg [] [⟨(some 1), .box 0 17 (.t 0),none,[]⟩,⟨(some 2), .mv (.k (.slice none 0 0)),none,[]⟩,⟨(some 3), .mv (.k .nilIface),none,[]⟩]) (.seq (.reg [] [⟨(some 8), .build [(.slice none 0 0), (.bool false)] [],none,[]⟩,⟨(some 9), .box 1 2 (.t 8),none,[]⟩,⟨(some 4), .mv (.t 9),none,[]⟩]) (.seq (.reg [] [⟨(some 10), .mv (.t 4),none,[]⟩,⟨(some 11), .fa 0 (.t 1),none,[]⟩,⟨(some 12), .load false 1 (.t 11),none,[]⟩,⟨(some 13), .fa 1 (.t 1),none,[]⟩,⟨(some 14), .load false 1 (.t 13),none,[]⟩,⟨(some 15), .fa 2 (.t 1),none,[]⟩,⟨(some 16), .load false 1 (.t 15),none,[]⟩,⟨(some 17), .fa 3 (.t 1),none,[]⟩,⟨(some 18), .load false 1 (.t 17),none,[]⟩,⟨(some 19), .fa 4 (.t 1),none,[]⟩,⟨(some 20), .load false 1 (.t 19),none,[]⟩,⟨(some 21), .fa 5 (.t 1),none,[]⟩,⟨(some 22), .load false 1 (.t 21),none,[]⟩,⟨(some 23), .fa 6 (.t 1),none,[]⟩,⟨(some 24), .load false 1 (.t 23),none,[]⟩,⟨(some 25), .litd 1 7 [(.int .i64 0)] [(0, (.t 12)), (1, (.t 14)), (2, (.t 16)), (3, (.t 18)), (4, (.t 20)), (5, (.t 22)), (6, (.t 24))],none,[]⟩,⟨(some 26), .call n_entry_writer_counts [(.t 10), (.t 25)] [2],none,[]⟩]) (.seq (.reg [] [⟨(some 5), .mv (.k (.int .u8 0)),none,[]⟩]) (.seq (.seq (.reg [] [⟨(some 27), .fa 7 (.t 1),none,[]⟩,⟨(some 28), .load false 1 (.t 27),none,[]⟩]) (.cond (.t 28) (.reg [] [⟨(some 5), .mv (.k (.int .u8 1)),none,[]⟩]) .skip)) (.seq (.reg [] [⟨(some 29), .mv (.t 4),none,[]⟩,⟨(some 30), .mv (.t 4),none,[]⟩,⟨(some 31), .nilc (.t 30),none,[]⟩,⟨(some 32), .fa 0 (.t 31),none,[]⟩,⟨(some 33), .load false 1 (.t 32),none,[]⟩,⟨(some 34), .mv (.t 5),none,[]⟩,⟨(some 35), .litd 1 1 [(.int .u8 0)] [(0, (.t 34))],none,[]⟩,⟨(some 36), .app 3 ty_uint8 1 1 (.t 33) (.t 35),none,[]⟩,⟨(some 37), .nilc (.t 29),none,[]⟩,⟨(some 38), .fa 0 (.t 37),none,[]⟩,⟨none, .store 1 (.t 38) (.t 36),none,[]⟩]) (.seq (.reg [] [⟨(some 39), .mv (.t 4),none,[]⟩,⟨(some 40), .fa 8 (.t 1),none,[]⟩,⟨(some 41), .load false 1 (.t 40),none,[]⟩,⟨(some 42), .call n_entry_writer_entries [(.t 39), (.t 41)] [4], none, [41]⟩]) (.seq (.reg [] [⟨(some 43), .mv (.t 4),none,[]⟩,⟨(some 44), .fa 9 (.t 1),none,[]⟩,⟨(some 45), .load false 1 (.t 44),none,[]⟩,⟨(some 46), .call n_entry_writer_members [(.t 43), (.t 45)] [5], none, [45]⟩]) (.seq (.reg [] [⟨(some 47), .mv (.t 4),none,[]⟩,⟨(some 48), .fa 10 (.t 1),none,[]⟩,⟨(some 49), .load false 1 (.t 48),none,[]⟩,⟨(some 50), .litd 1 1 [(.int .i64 0)] [(0, (.t 49))],none,[]⟩,⟨(some 51), .call n_entry_writer_counts [(.t 47), (.t 50)] [6],none,[]⟩]) (.seq (.reg [] [⟨(some 52), .mv (.t 4),none,[]⟩,⟨(some 53), .fa 11 (.t 1),none,[]⟩,⟨(some 54), .load false 1 (.t 53),none,[]⟩,⟨(some 55), .call n_entry_writer_bytes [(.t 52), (.t 54), (.k (.int .i64 32))] [7], none, [54]⟩]) (.seq (.reg [] [⟨(some 57), .fa 12 (.t 1),none,[]⟩,⟨(some 58), .load true 5 (.t 57),none,[]⟩,⟨(some 59), .qcall n_code_Write [(.t 58)] [], none, [58]⟩,⟨(some 56), .mv (.t 59),none,[]⟩,⟨(some 60), .ext 0 (.t 56),none,[]⟩,⟨(some 61), .ext 1 (.t 56),none,[]⟩,⟨(some 6), .cn (.t 60),none,[]⟩,⟨(some 7), .mv (.t 61),none,[]⟩]) (.seq (.reg [] [⟨(some 62), .mv (.t 4),none,[]⟩,⟨(some 63), .mv (.t 4),none,[]⟩,⟨(some 64), .nilc (.t 63),none,[]⟩,⟨(some 65), .fa 1 (.t 64),none,[]⟩,⟨(some 66), .load false 1 (.t 65),none,[]⟩,⟨(some 67), .mv (.t 66),none,[]⟩,⟨(some 68), .mv (.t 7), (some (67, false)), []⟩,⟨(some 69), .bin (.iface ty_api_Code true) .neq (.t 68) (.k .nilIface), (some (67, false)), []⟩,⟨(some 70), .pick (.t 67) (.k (.bool true)) (.t 69),none,[]⟩,⟨(some 71), .nilc (.t 62),none,[]⟩,⟨(some 72), .fa 1 (.t 71),none,[]⟩,⟨none, .store 1 (.t 72) (.t 70),none,[]⟩]) (.seq (.reg [] [⟨(some 73), .mv (.t 4),none,[]⟩,⟨(some 74), .cn (.t 6),none,[]⟩,⟨(some 75), .cn (.t 6),none,[]⟩,⟨(some 76), .len false (.t 75),none,[]⟩,⟨(some 77), .call n_entry_writer_bytes [(.t 73), (.t 74), (.t 76)] [8],none,[]⟩]) (.seq (.reg [] [⟨(some 78), .mv (.t 4),none,[]⟩,⟨(some 79), .call n_entry_writer_end [(.t 78)] [9],none,[]⟩,⟨(some 80), .ext 0 (.t 79),none,[]⟩,⟨(some 81), .ext 1 (.t 79),none,[]⟩,⟨(some 2), .mv (.t 80),none,[]⟩,⟨(some 3), .mv (.t 81),none,[]⟩]) (.ret i_entry_Write_r))))))))))))))),
 [.tmp 2, .tmp 3], [i_,o_], false, []⟩

def i_code_Write_r : List Bool := [o_,o_,i_,i_,o_,o_,o_,o_,o_,o_,o_,o_,o_,o_,o_]
/-- heartwood/code.Write -/
def i_code_Write : Ev.Fn := ⟨1, 15, 2, (.seq (.reg [] [⟨(some 1), .box 0 5 (.t 0),none,[]⟩,⟨(some 2), .cn (.k (.slice none 0 0)),none,[]⟩,⟨(some 3), .mv (.k .nilIface),none,[]⟩]) (.seq (.seq (.reg [] [⟨(some 5), .load true 5 (.t 1),none,[]⟩,⟨(some 6), .qcall n_tree_Check [(.t 5)] [],none,[]⟩,⟨(some 4), .mv (.t 6),none,[]⟩]) (.seq (.reg [] [⟨(some 7), .mv (.t 4),none,[]⟩,⟨(some 8), .bin (.iface ty_api_Code true) .neq (.t 7) (.k .nilIface),none,[]⟩]) (.cond (.t 8) (.seq (.reg [] [⟨(some 9), .mv (.t 4),none,[]⟩,⟨(some 2), .cn (.k (.slice none 0 0)),none,[]⟩,⟨(some 3), .mv (.t 9),none,[]⟩]) (.ret i_code_Write_r)) .skip))) (.seq (.seq (.reg [] [⟨(some 10), .load true 5 (.t 1),none,[]⟩,⟨(some 11), .qcall n_code_long [(.t 10)] [],none,[]⟩]) (.cond (.t 11) (.seq (.reg [] [⟨(some 12), .mki ty_api_Code (.k (.int .i64 2)),none,[]⟩,⟨(some 2), .cn (.k (.slice none 0 0)),none,[]⟩,⟨(some 3), .mv (.t 12),none,[]⟩]) (.ret i_code_Write_r)) .skip)) (.seq (.reg [] [⟨(some 13), .load true 5 (.t 1),none,[]⟩,⟨(some 14), .qcall n_code_write [(.k (.slice none 0 0)), (.t 13)] [1],none,[]⟩,⟨(some 2), .cn (.t 14), none, [14]⟩,⟨(some 3), .mv (.k .nilIface),none,[]⟩]) (.ret i_code_Write_r))))),
 [.tmp 2, .tmp 3], [], false, []⟩

def i_tree_Check_r : List Bool := [o_,o_,i_,o_,o_,o_,o_,o_,o_,o_,o_,o_]
def i_tree_Check_j0 : List Bool := [o_,o_,o_,o_,o_,o_,o_,o_,o_,o_,o_,o_]
/-- heartwood/tree.Check -/
def i_tree_Check : Ev.Fn := ⟨1, 12, 1, (.seq (.reg [] [⟨(some 1), .box 0 5 (.t 0),none,[]⟩,⟨(some 2), .mv (.k .nilIface),none,[]⟩]) (.seq (.block 0 i_tree_Check_j0 (.seq (.reg [] [⟨(some 4), .load true 5 (.t 1),none,[]⟩,⟨(some 5), .qcall n_tree_deep [(.t 4), (.k (.int .i64 64))] [],none,[]⟩,⟨(some 3), .mv (.t 5),none,[]⟩]) (.cond (.t 3) (.seq (.reg [] [⟨(some 6), .mki ty_api_Code (.k (.int .i64 5)),none,[]⟩,⟨(some 2), .mv (.t 6),none,[]⟩]) (.ret i_tree_Check_r)) (.seq (.reg [] [⟨(some 8), .load true 5 (.t 1),none,[]⟩,⟨(some 9), .qcall n_tree_formed [(.t 8)] [],none,[]⟩,⟨(some 10), .un .not (.t 9),none,[]⟩,⟨(some 7), .mv (.t 10),none,[]⟩]) (.cond (.t 7) (.seq (.reg [] [⟨(some 11), .mki ty_api_Code (.k (.int .i64 3)),none,[]⟩,⟨(some 2), .mv (.t 11),none,[]⟩]) (.ret i_tree_Check_r)) .skip))))) (.seq (.reg [] [⟨(some 2), .mv (.k .nilIface),none,[]⟩]) (.ret i_tree_Check_r)))),
 [.tmp 2], [], false, []⟩

def i_tree_deep_r : List Bool := [o_,o_,o_,o_,i_,o_,o_,o_,o_,o_,o_,o_,o_,o_,o_,o_,o_,o_,o_,o_,o_,o_,o_,o_,o_,o_,o_,o_,o_]
/-- heartwood/tree.deep -/
def i_tree_deep : Ev.Fn := ⟨2, 29, 2, (.seq (.reg [] [⟨(some 2), .box 0 5 (.t 0),none,[]⟩,⟨(some 3), .box 1 1 (.t 1),none,[]⟩,⟨(some 4), .mv (.k (.bool false)),none,[]⟩]) (.seq (.reg [] [⟨(some 6), .fa 0 (.t 2),none,[]⟩,⟨(some 7), .load false 1 (.t 6),none,[]⟩,⟨(some 8), .bin .plain .eql (.t 7) (.k (.int .i64 1)),none,[]⟩,⟨(some 9), .mv (.t 8),none,[]⟩,⟨(some 10), .fa 0 (.t 2), (some (9, false)), []⟩,⟨(some 11), .load false 1 (.t 10), (some (9, false)), []⟩,⟨(some 12), .bin .plain .eql (.t 11) (.k (.int .i64 2)), (some (9, false)), []⟩,⟨(some 13), .pick (.t 9) (.k (.bool true)) (.t 12),none,[]⟩,⟨(some 14), .mv (.t 13),none,[]⟩,⟨(some 15), .fa 4 (.t 2), (some (14, false)), []⟩,⟨(some 16), .load false 1 (.t 15), (some (14, false)), []⟩,⟨(some 17), .len false (.t 16), (some (14, false)), []⟩,⟨(some 18), .bin .plain .gtr (.t 17) (.k (.int .i64 0)), (some (14, false)), []⟩,⟨(some 19), .pick (.t 14) (.k (.bool true)) (.t 18),none,[]⟩,⟨(some 5), .mv (.t 19),none,[]⟩]) (.seq (.seq (.reg [] [⟨(some 20), .mv (.t 5),none,[]⟩,⟨(some 21), .mv (.t 20),none,[]⟩,⟨(some 22), .load false 1 (.t 3), (some (21, true)), []⟩,⟨(some 23), .bin .plain .lss (.t 22) (.k (.int .i64 1)), (some (21, true)), []⟩,⟨(some 24), .pick (.t 21) (.t 23) (.k (.bool false)),none,[]⟩]) (.cond (.t 24) (.seq (.reg [] [⟨(some 4), .mv (.k (.bool true)),none,[]⟩]) (.ret i_tree_deep_r)) .skip)) (.seq (.reg [] [⟨(some 25), .fa 4 (.t 2),none,[]⟩,⟨(some 26), .load false 1 (.t 25),none,[]⟩,⟨(some 27), .mkf n_tree_deep_1 [(.t 3)],none,[]⟩,⟨(some 28), .call n_slices_ContainsFunc_sl_api_Tree_api_Tree [(.t 26), (.t 27)] [],none,[]⟩,⟨(some 4), .mv (.t 28),none,[]⟩]) (.ret i_tree_deep_r))))),
 [.tmp 4], [], false, []⟩

def i_tree_deep_1_r : List Bool := [o_,o_,o_,i_,o_,o_,o_,o_]
/-- heartwood/tree.deep$1 -/
def i_tree_deep_1 : Ev.Fn := ⟨2, 8, 1, (.seq (.reg [] [⟨(some 2), .box 0 5 (.t 0),none,[]⟩,⟨(some 3), .mv (.k (.bool false)),none,[]⟩]) (.seq (.reg [] [⟨(some 4), .load true 5 (.t 2),none,[]⟩,⟨(some 5), .load false 1 (.t 1),none,[]⟩,⟨(some 6), .bin .plain .sub (.t 5) (.k (.int .i64 1)),none,[]⟩,⟨(some 7), .qcall n_tree_deep [(.t 4), (.t 6)] [], none, [4]⟩,⟨(some 3), .mv (.t 7),none,[]⟩]) (.ret i_tree_deep_1_r))),
 [.tmp 3], [], false, []⟩

def i_slices_ContainsFunc_sl_api_Tree_api_Tree_r : List Bool := [o_,o_,o_,o_,i_,o_,o_,o_,o_]
/-- slices.ContainsFunc[[]heartwood/api.Tree,heartwood/api.Tree] -/
def i_slices_ContainsFunc_sl_api_Tree_api_Tree : Ev.Fn := ⟨2, 9, 0, (.seq (.reg [] [⟨(some 4), .mv (.k (.bool false)),none,[]⟩]) (.seq (.reg [] [⟨(some 5), .cn (.t 0),none,[]⟩,⟨(some 6), .mv (.t 1),none,[]⟩,⟨(some 7), .call n_slices_IndexFunc_sl_api_Tree_api_Tree [(.t 5), (.t 6)] [],none,[]⟩,⟨(some 8), .bin .plain .geq (.t 7) (.k (.int .i64 0)),none,[]⟩,⟨(some 4), .mv (.t 8),none,[]⟩]) (.ret i_slices_ContainsFunc_sl_api_Tree_api_Tree_r))),
 [.tmp 4], [], false, []⟩

def i_slices_IndexFunc_sl_api_Tree_api_Tree_r : List Bool := [o_,o_,o_,o_,i_,o_,o_,o_,o_,o_,o_,o_,o_,o_,o_,o_,o_,o_,o_]
def i_slices_IndexFunc_sl_api_Tree_api_Tree_j1 : List Bool := [i_,i_,o_,o_,o_,o_,o_,i_,i_,o_,o_,o_,o_,o_,o_,o_,o_,o_,o_]
def i_slices_IndexFunc_sl_api_Tree_api_Tree_k0 : List Bool := [i_,i_,o_,o_,o_,o_,o_,i_,i_,o_,o_,o_,o_,o_,o_,o_,o_,o_,o_]
def i_slices_IndexFunc_sl_api_Tree_api_Tree_j0 : List Bool := [o_,o_,o_,o_,o_,o_,o_,o_,o_,o_,o_,o_,o_,o_,o_,o_,o_,o_,o_]
abbrev s_slices_IndexFunc_sl_api_Tree_api_Tree_R (t4 : AV) (h : Heap) : St := ⟨[u_,u_,u_,u_,t4, u_,u_,u_,u_,u_,u_,u_,u_,u_,u_,u_,u_,u_,u_], h⟩
abbrev s_slices_IndexFunc_sl_api_Tree_api_Tree_K0 (t0 t1 t7 t8 : AV) (h : Heap) : St := ⟨[t0, t1, u_,u_,u_,u_,u_,t7, t8, u_,u_,u_,u_,u_,u_,u_,u_,u_,u_], h⟩
def i_slices_IndexFunc_sl_api_Tree_api_Tree_b0 : IR := (.seq (.reg [] [⟨(some 9), .bin .plain .lss (.t 8) (.t 7),none,[]⟩]) (.seq (.cond (.t 9) .skip (.exit 0 i_slices_IndexFunc_sl_api_Tree_api_Tree_j0)) (.seq (.block 1 i_slices_IndexFunc_sl_api_Tree_api_Tree_j1 (.seq (.reg [] [⟨(some 10), .mv (.t 8),none,[]⟩,⟨(some 5), .mv (.t 10),none,[]⟩]) (.seq (.reg [] [⟨(some 11), .mv (.t 1),none,[]⟩,⟨(some 12), .cn (.t 0),none,[]⟩,⟨(some 13), .mv (.t 5),none,[]⟩,⟨(some 14), .ia 5 (.t 12) (.t 13),none,[]⟩,⟨(some 15), .load true 5 (.t 14),none,[]⟩,⟨(some 16), .callv (.t 11) [(.t 15)] [], none, [15]⟩]) (.cond (.t 16) (.seq (.reg [] [⟨(some 17), .mv (.t 5),none,[]⟩,⟨(some 4), .mv (.t 17),none,[]⟩]) (.ret i_slices_IndexFunc_sl_api_Tree_api_Tree_r)) .skip)))) (.reg [] [⟨(some 18), .bin .plain .add (.t 8) (.k (.int .i64 1)),none,[]⟩,⟨(some 8), .mv (.t 18),none,[]⟩]))))

abbrev s_slices_IndexFunc_sl_api_Tree_api_Tree_J0 (h : Heap) : St := ⟨[u_,u_,u_,u_,u_,u_,u_,u_,u_,u_,u_,u_,u_,u_,u_,u_,u_,u_,u_], h⟩
/-- slices.IndexFunc[[]heartwood/api.Tree,heartwood/api.Tree] -/
def i_slices_IndexFunc_sl_api_Tree_api_Tree : Ev.Fn := ⟨2, 19, 0, (.seq (.reg [] [⟨(some 4), .mv (.k (.int .i64 0)),none,[]⟩]) (.seq (.seq (.reg [] [⟨(some 6), .cn (.t 0),none,[]⟩,⟨(some 7), .len false (.t 6),none,[]⟩,⟨(some 8), .mv (.k (.int .i64 0)),none,[]⟩]) (.block 0 i_slices_IndexFunc_sl_api_Tree_api_Tree_j0 (.loop i_slices_IndexFunc_sl_api_Tree_api_Tree_k0 i_slices_IndexFunc_sl_api_Tree_api_Tree_b0))) (.seq (.reg [] [⟨(some 4), .mv (.k (.int .i64 (-1))),none,[]⟩]) (.ret i_slices_IndexFunc_sl_api_Tree_api_Tree_r)))),
 [.tmp 4], [], false, []⟩

def i_tree_formed_r : List Bool := [o_,o_,i_,o_,o_,o_,o_,o_,o_,o_,o_,o_,o_,o_,o_,o_,o_,o_,o_,o_,o_,o_,o_,o_,o_,o_,o_,o_,o_,o_,o_,o_,o_,o_,o_,o_,o_,o_,o_,o_,o_,o_,o_,o_,o_,o_,o_,o_,o_,o_,o_,o_,o_,o_,o_,o_,o_,o_,o_,o_,o_,o_,o_,o_,o_,o_,o_,o_,o_,o_,o_,o_,o_,o_,o_,o_,o_,o_,o_,o_,o_,o_,o_,o_,o_,o_,o_]
def i_tree_formed_j0 : List Bool := [o_,i_,o_,i_,o_,o_,o_,o_,o_,o_,o_,o_,o_,o_,o_,o_,o_,o_,o_,o_,o_,o_,o_,o_,o_,o_,o_,o_,o_,o_,o_,o_,o_,o_,o_,o_,o_,o_,o_,o_,o_,o_,o_,o_,o_,o_,o_,o_,o_,o_,o_,o_,o_,o_,o_,o_,o_,o_,o_,o_,o_,o_,o_,o_,o_,o_,o_,o_,o_,o_,o_,o_,o_,o_,o_,o_,o_,o_,o_,o_,o_,o_,o_,o_,o_,o_,o_]
/-- heartwood/tree.formed -/
def i_tree_formed : Ev.Fn := ⟨1, 87, 1, (.seq (.reg [] [⟨(some 1), .box 0 5 (.t 0),none,[]⟩,⟨(some 2), .mv (.k (.bool false)),none,[]⟩]) (.seq (.reg [] [⟨(some 3), .mv (.k (.bool false)),none,[]⟩]) (.seq (.seq (.reg [] [⟨(some 4), .fa 0 (.t 1),none,[]⟩,⟨(some 5), .load false 1 (.t 4),none,[]⟩]) (.block 0 i_tree_formed_j0 (.seq (.reg [] [⟨(some 7), .bin .plain .eql (.t 5) (.k (.int .i64 0)),none,[]⟩,⟨(some 6), .mv (.t 7),none,[]⟩]) (.cond (.t 6) (.reg [] [⟨(some 8), .fa 1 (.t 1),none,[]⟩,⟨(some 9), .load false 1 (.t 8),none,[]⟩,⟨(some 10), .len false (.t 9),none,[]⟩,⟨(some 11), .fa 2 (.t 1),none,[]⟩,⟨(some 12), .load false 1 (.t 11),none,[]⟩,⟨(some 13), .len false (.t 12),none,[]⟩,⟨(some 14), .bin .plain .add (.t 10) (.t 13),none,[]⟩,⟨(some 15), .fa 3 (.t 1),none,[]⟩,⟨(some 16), .load false 1 (.t 15),none,[]⟩,⟨(some 17), .len false (.t 16),none,[]⟩,⟨(some 18), .bin .plain .add (.t 14) (.t 17),none,[]⟩,⟨(some 19), .fa 4 (.t 1),none,[]⟩,⟨(some 20), .load false 1 (.t 19),none,[]⟩,⟨(some 21), .len false (.t 20),none,[]⟩,⟨(some 22), .bin .plain .add (.t 18) (.t 21),none,[]⟩,⟨(some 23), .bin .plain .eql (.t 22) (.k (.int .i64 0)),none,[]⟩,⟨(some 3), .mv (.t 23),none,[]⟩]) (.seq (.reg [] [⟨(some 25), .bin .plain .eql (.t 5) (.k (.int .i64 1)),none,[]⟩,⟨(some 24), .mv (.t 25),none,[]⟩]) (.cond (.t 24) (.reg [] [⟨(some 26), .fa 1 (.t 1),none,[]⟩,⟨(some 27), .load false 1 (.t 26),none,[]⟩,⟨(some 28), .len false (.t 27),none,[]⟩,⟨(some 29), .bin .plain .leq (.t 28) (.k (.int .i64 80)),none,[]⟩,⟨(some 30), .mv (.t 29),none,[]⟩,⟨(some 31), .fa 2 (.t 1), (some (30, true)), []⟩,⟨(some 32), .load false 1 (.t 31), (some (30, true)), []⟩,⟨(some 33), .len false (.t 32), (some (30, true)), []⟩,⟨(some 34), .bin .plain .leq (.t 33) (.k (.int .i64 1024)), (some (30, true)), []⟩,⟨(some 35), .pick (.t 30) (.t 34) (.k (.bool false)),none,[]⟩,⟨(some 36), .mv (.t 35),none,[]⟩,⟨(some 37), .fa 3 (.t 1), (some (36, true)), []⟩,⟨(some 38), .load false 1 (.t 37), (some (36, true)), []⟩,⟨(some 39), .len false (.t 38), (some (36, true)), []⟩,⟨(some 40), .bin .plain .eql (.t 39) (.k (.int .i64 0)), (some (36, true)), []⟩,⟨(some 41), .pick (.t 36) (.t 40) (.k (.bool false)),none,[]⟩,⟨(some 42), .mv (.t 41),none,[]⟩,⟨(some 43), .fa 4 (.t 1), (some (42, true)), []⟩,⟨(some 44), .load false 1 (.t 43), (some (42, true)), []⟩,⟨(some 45), .len false (.t 44), (some (42, true)), []⟩,⟨(some 46), .bin .plain .eql (.t 45) (.k (.int .i64 2)), (some (42, true)), []⟩,⟨(some 47), .pick (.t 42) (.t 46) (.k (.bool false)),none,[]⟩,⟨(some 3), .mv (.t 47),none,[]⟩]) (.seq (.reg [] [⟨(some 49), .bin .plain .eql (.t 5) (.k (.int .i64 2)),none,[]⟩,⟨(some 48), .mv (.t 49),none,[]⟩]) (.cond (.t 48) (.reg [] [⟨(some 50), .fa 1 (.t 1),none,[]⟩,⟨(some 51), .load false 1 (.t 50),none,[]⟩,⟨(some 52), .len false (.t 51),none,[]⟩,⟨(some 53), .bin .plain .leq (.t 52) (.k (.int .i64 80)),none,[]⟩,⟨(some 54), .mv (.t 53),none,[]⟩,⟨(some 55), .fa 2 (.t 1), (some (54, true)), []⟩,⟨(some 56), .load false 1 (.t 55), (some (54, true)), []⟩,⟨(some 57), .len false (.t 56), (some (54, true)), []⟩,⟨(some 58), .bin .plain .eql (.t 57) (.k (.int .i64 0)), (some (54, true)), []⟩,⟨(some 59), .pick (.t 54) (.t 58) (.k (.bool false)),none,[]⟩,⟨(some 60), .mv (.t 59),none,[]⟩,⟨(some 61), .fa 4 (.t 1), (some (60, true)), []⟩,⟨(some 62), .load false 1 (.t 61), (some (60, true)), []⟩,⟨(some 63), .len false (.t 62), (some (60, true)), []⟩,⟨(some 64), .bin .plain .eql (.t 63) (.k (.int .i64 2)), (some (60, true)), []⟩,⟨(some 65), .pick (.t 60) (.t 64) (.k (.bool false)),none,[]⟩,⟨(some 3), .mv (.t 65),none,[]⟩]) (.seq (.reg [] [⟨(some 67), .bin .plain .eql (.t 5) (.k (.int .i64 3)),none,[]⟩,⟨(some 66), .mv (.t 67),none,[]⟩]) (.cond (.t 66) (.reg [] [⟨(some 68), .fa 1 (.t 1),none,[]⟩,⟨(some 69), .load false 1 (.t 68),none,[]⟩,⟨(some 70), .len false (.t 69),none,[]⟩,⟨(some 71), .fa 2 (.t 1),none,[]⟩,⟨(some 72), .load false 1 (.t 71),none,[]⟩,⟨(some 73), .len false (.t 72),none,[]⟩,⟨(some 74), .bin .plain .add (.t 70) (.t 73),none,[]⟩,⟨(some 75), .fa 4 (.t 1),none,[]⟩,⟨(some 76), .load false 1 (.t 75),none,[]⟩,⟨(some 77), .len false (.t 76),none,[]⟩,⟨(some 78), .bin .plain .add (.t 74) (.t 77),none,[]⟩,⟨(some 79), .bin .plain .eql (.t 78) (.k (.int .i64 0)),none,[]⟩,⟨(some 3), .mv (.t 79),none,[]⟩]) .skip)))))))))) (.seq (.reg [] [⟨(some 80), .mv (.t 3),none,[]⟩,⟨(some 81), .mv (.t 80),none,[]⟩,⟨(some 82), .fa 4 (.t 1), (some (81, true)), []⟩,⟨(some 83), .load false 1 (.t 82), (some (81, true)), []⟩,⟨(some 84), .call n_slices_ContainsFunc_sl_api_Tree_api_Tree [(.t 83), (.f n_tree_formed_1)] [], (some (81, true)), []⟩,⟨(some 85), .un .not (.t 84), (some (81, true)), []⟩,⟨(some 86), .pick (.t 81) (.t 85) (.k (.bool false)),none,[]⟩,⟨(some 2), .mv (.t 86),none,[]⟩]) (.ret i_tree_formed_r))))),
 [.tmp 2], [], false, []⟩

def i_tree_formed_1_r : List Bool := [o_,o_,i_,o_,o_,o_]
/-- heartwood/tree.formed$1 -/
def i_tree_formed_1 : Ev.Fn := ⟨1, 6, 1, (.seq (.reg [] [⟨(some 1), .box 0 5 (.t 0),none,[]⟩,⟨(some 2), .mv (.k (.bool false)),none,[]⟩]) (.seq (.reg [] [⟨(some 3), .load true 5 (.t 1),none,[]⟩,⟨(some 4), .qcall n_tree_formed [(.t 3)] [],none,[]⟩,⟨(some 5), .un .not (.t 4),none,[]⟩,⟨(some 2), .mv (.t 5),none,[]⟩]) (.ret i_tree_formed_1_r))),
 [.tmp 2], [], false, []⟩

def i_code_long_r : List Bool := [o_,o_,i_,o_,o_,o_,o_,o_,o_,o_,o_,o_,o_,o_,o_,o_,o_,o_,o_]
def i_code_long_j1 : List Bool := [o_,o_,o_,o_,o_,o_,o_,o_,o_,o_,i_,i_,i_,o_,o_,o_,o_,o_,o_]
def i_code_long_k0 : List Bool := [o_,o_,o_,o_,o_,o_,o_,o_,o_,o_,i_,i_,i_,o_,o_,o_,o_,o_,o_]
def i_code_long_j0 : List Bool := [o_,o_,o_,o_,o_,o_,o_,o_,o_,o_,o_,o_,o_,o_,o_,o_,o_,o_,o_]
abbrev s_code_long_R (t2 : AV) (h : Heap) : St := ⟨[u_,u_,t2, u_,u_,u_,u_,u_,u_,u_,u_,u_,u_,u_,u_,u_,u_,u_,u_], h⟩
abbrev s_code_long_K0 (t10 t11 t12 : AV) (h : Heap) : St := ⟨[u_,u_,u_,u_,u_,u_,u_,u_,u_,u_,t10, t11, t12, u_,u_,u_,u_,u_,u_], h⟩
def i_code_long_b0 : IR := (.seq (.reg [] [⟨(some 13), .bin .plain .lss (.t 12) (.t 11),none,[]⟩]) (.seq (.cond (.t 13) .skip (.exit 0 i_code_long_j0)) (.seq (.block 1 i_code_long_j1 (.seq (.reg [] [⟨(some 14), .ia 5 (.t 10) (.t 12),none,[]⟩,⟨(some 15), .load true 5 (.t 14),none,[]⟩,⟨(some 4), .new 1 [(.int .i64 0), (.slice none 0 0), (.slice none 0 0), (.slice none 0 0), (.slice none 0 0)],none,[]⟩,⟨none, .store 5 (.t 4) (.t 15),none,[]⟩]) (.seq (.reg [] [⟨(some 16), .load true 5 (.t 4),none,[]⟩,⟨(some 17), .qcall n_code_long [(.t 16)] [],none,[]⟩]) (.cond (.t 17) (.seq (.reg [] [⟨(some 2), .mv (.k (.bool true)),none,[]⟩]) (.ret i_code_long_r)) .skip)))) (.reg [] [⟨(some 18), .bin .plain .add (.t 12) (.k (.int .i64 1)),none,[]⟩,⟨(some 12), .mv (.t 18),none,[]⟩]))))

abbrev s_code_long_J0 (h : Heap) : St := ⟨[u_,u_,u_,u_,u_,u_,u_,u_,u_,u_,u_,u_,u_,u_,u_,u_,u_,u_,u_], h⟩
/-- heartwood/code.long -/
def i_code_long : Ev.Fn := ⟨1, 19, 2, (.seq (.reg [] [⟨(some 1), .box 0 5 (.t 0),none,[]⟩,⟨(some 2), .mv (.k (.bool false)),none,[]⟩]) (.seq (.seq (.reg [] [⟨(some 5), .fa 3 (.t 1),none,[]⟩,⟨(some 6), .load false 1 (.t 5),none,[]⟩,⟨(some 7), .len false (.t 6),none,[]⟩,⟨(some 8), .bin .plain .gtr (.t 7) (.k (.int .i64 32)),none,[]⟩]) (.cond (.t 8) (.seq (.reg [] [⟨(some 2), .mv (.k (.bool true)),none,[]⟩]) (.ret i_code_long_r)) .skip)) (.seq (.seq (.reg [] [⟨(some 9), .fa 4 (.t 1),none,[]⟩,⟨(some 10), .load false 1 (.t 9),none,[]⟩,⟨(some 11), .len false (.t 10),none,[]⟩,⟨(some 12), .mv (.k (.int .i64 0)),none,[]⟩]) (.block 0 i_code_long_j0 (.loop i_code_long_k0 i_code_long_b0))) (.seq (.reg [] [⟨(some 2), .mv (.k (.bool false)),none,[]⟩]) (.ret i_code_long_r))))),
 [.tmp 2], [], false, []⟩

def i_code_write_r : List Bool := [o_,o_,o_,o_,i_,o_,o_,o_,o_,o_,o_,o_,o_,o_,o_,o_,o_,o_,o_,o_,o_,o_,o_,o_,o_,o_,o_,o_,o_,o_,o_,o_,o_,o_,o_,o_,o_,o_,o_,o_,o_,o_,o_,o_,o_,o_,o_,o_,o_,o_,o_,o_,o_,o_,o_,o_]
def i_code_write_j0 : List Bool := [i_,o_,o_,i_,o_,o_,o_,o_,o_,o_,o_,o_,o_,o_,o_,o_,o_,o_,o_,o_,o_,o_,o_,o_,o_,o_,o_,o_,o_,o_,o_,o_,o_,o_,o_,o_,o_,o_,o_,o_,o_,o_,o_,o_,o_,o_,o_,o_,o_,o_,o_,o_,o_,o_,o_,o_]
def i_code_write_j2 : List Bool := [i_,o_,o_,o_,o_,o_,o_,o_,o_,o_,o_,o_,o_,o_,o_,o_,o_,o_,o_,o_,o_,o_,o_,o_,o_,o_,o_,o_,o_,o_,o_,o_,o_,o_,o_,o_,o_,o_,o_,o_,o_,o_,o_,o_,o_,i_,i_,i_,o_,o_,o_,o_,o_,o_,o_,o_]
def i_code_write_k0 : List Bool := [i_,o_,o_,o_,o_,o_,o_,o_,o_,o_,o_,o_,o_,o_,o_,o_,o_,o_,o_,o_,o_,o_,o_,o_,o_,o_,o_,o_,o_,o_,o_,o_,o_,o_,o_,o_,o_,o_,o_,o_,o_,o_,o_,o_,o_,i_,i_,i_,o_,o_,o_,o_,o_,o_,o_,o_]
def i_code_write_j1 : List Bool := [i_,o_,o_,o_,o_,o_,o_,o_,o_,o_,o_,o_,o_,o_,o_,o_,o_,o_,o_,o_,o_,o_,o_,o_,o_,o_,o_,o_,o_,o_,o_,o_,o_,o_,o_,o_,o_,o_,o_,o_,o_,o_,o_,o_,o_,o_,o_,o_,o_,o_,o_,o_,o_,o_,o_,o_]
abbrev s_code_write_R (t4 : AV) (h : Heap) : St := ⟨[u_,u_,u_,u_,t4, u_,u_,u_,u_,u_,u_,u_,u_,u_,u_,u_,u_,u_,u_,u_,u_,u_,u_,u_,u_,u_,u_,u_,u_,u_,u_,u_,u_,u_,u_,u_,u_,u_,u_,u_,u_,u_,u_,u_,u_,u_,u_,u_,u_,u_,u_,u_,u_,u_,u_,u_], h⟩
abbrev s_code_write_K0 (t0 t45 t46 t47 : AV) (h : Heap) : St := ⟨[t0, u_,u_,u_,u_,u_,u_,u_,u_,u_,u_,u_,u_,u_,u_,u_,u_,u_,u_,u_,u_,u_,u_,u_,u_,u_,u_,u_,u_,u_,u_,u_,u_,u_,u_,u_,u_,u_,u_,u_,u_,u_,u_,u_,u_,t45, t46, t47, u_,u_,u_,u_,u_,u_,u_,u_], h⟩
def i_code_write_b0 : IR := (.seq (.reg [] [⟨(some 48), .bin .plain .lss (.t 47) (.t 46),none,[]⟩]) (.seq (.cond (.t 48) .skip (.exit 1 i_code_write_j1)) (.seq (.block 2 i_code_write_j2 (.seq (.reg [] [⟨(some 49), .ia 5 (.t 45) (.t 47),none,[]⟩,⟨(some 50), .load true 5 (.t 49),none,[]⟩,⟨(some 6), .new 2 [(.int .i64 0), (.slice none 0 0), (.slice none 0 0), (.slice none 0 0), (.slice none 0 0)],none,[]⟩,⟨none, .store 5 (.t 6) (.t 50),none,[]⟩]) (.reg [] [⟨(some 51), .mv (.t 0),none,[]⟩,⟨(some 52), .load true 5 (.t 6),none,[]⟩,⟨(some 53), .call n_code_write [(.t 51), (.t 52)] [3],none,[]⟩,⟨(some 0), .mv (.t 53),none,[]⟩]))) (.reg [] [⟨(some 54), .bin .plain .add (.t 47) (.k (.int .i64 1)),none,[]⟩,⟨(some 47), .mv (.t 54),none,[]⟩]))))

abbrev s_code_write_J1 (t0 : AV) (h : Heap) : St := ⟨[t0, u_,u_,u_,u_,u_,u_,u_,u_,u_,u_,u_,u_,u_,u_,u_,u_,u_,u_,u_,u_,u_,u_,u_,u_,u_,u_,u_,u_,u_,u_,u_,u_,u_,u_,u_,u_,u_,u_,u_,u_,u_,u_,u_,u_,u_,u_,u_,u_,u_,u_,u_,u_,u_,u_,u_], h⟩
/-- heartwood/code.write -/
def i_code_write : Ev.Fn := ⟨2, 56, 4, (.seq (.reg [] [⟨(some 3), .box 0 5 (.t 1),none,[]⟩,⟨(some 4), .mv (.k (.slice none 0 0)),none,[]⟩]) (.seq (.reg [] [⟨(some 7), .mv (.t 0),none,[]⟩,⟨(some 8), .fa 0 (.t 3),none,[]⟩,⟨(some 9), .load false 1 (.t 8),none,[]⟩,⟨(some 10), .conv .u8 (.t 9),none,[]⟩,⟨(some 11), .litd 1 1 [(.int .u8 0)] [(0, (.t 10))],none,[]⟩,⟨(some 12), .app 1 ty_uint8 1 1 (.t 7) (.t 11),none,[]⟩,⟨(some 0), .mv (.t 12),none,[]⟩]) (.seq (.seq (.reg [] [⟨(some 13), .fa 0 (.t 3),none,[]⟩,⟨(some 14), .load false 1 (.t 13),none,[]⟩]) (.block 0 i_code_write_j0 (.seq (.reg [] [⟨(some 16), .bin .plain .eql (.t 14) (.k (.int .i64 1)),none,[]⟩,⟨(some 15), .mv (.t 16),none,[]⟩]) (.cond (.t 15) (.reg [(4, 6)] [⟨(some 17), .mv (.t 0),none,[]⟩,⟨(some 18), .fa 1 (.t 3),none,[]⟩,⟨(some 19), .load false 1 (.t 18),none,[]⟩,⟨(some 20), .qcall n_coder_Bytes [(.t 19)] [],none,[]⟩,⟨(some 21), .app 1 ty_uint8 1 1 (.t 17) (.t 20),none,[]⟩,⟨(some 22), .fa 2 (.t 3),none,[]⟩,⟨(some 23), .load false 1 (.t 22),none,[]⟩,⟨(some 24), .qcall n_coder_Bytes [(.t 23)] [],none,[]⟩,⟨(some 25), .app 1 ty_uint8 1 1 (.t 21) (.t 24),none,[]⟩,⟨(some 0), .mv (.t 25),none,[]⟩]) (.seq (.reg [] [⟨(some 27), .bin .plain .eql (.t 14) (.k (.int .i64 2)),none,[]⟩,⟨(some 26), .mv (.t 27),none,[]⟩]) (.cond (.t 26) (.reg [(4, 6)] [⟨(some 28), .mv (.t 0),none,[]⟩,⟨(some 29), .fa 1 (.t 3),none,[]⟩,⟨(some 30), .load false 1 (.t 29),none,[]⟩,⟨(some 31), .qcall n_coder_Bytes [(.t 30)] [],none,[]⟩,⟨(some 32), .app 1 ty_uint8 1 1 (.t 28) (.t 31),none,[]⟩,⟨(some 33), .fa 3 (.t 3),none,[]⟩,⟨(some 34), .load false 1 (.t 33),none,[]⟩,⟨(some 35), .qcall n_coder_Bytes [(.t 34)] [],none,[]⟩,⟨(some 36), .app 1 ty_uint8 1 1 (.t 32) (.t 35),none,[]⟩,⟨(some 0), .mv (.t 36),none,[]⟩]) (.seq (.reg [] [⟨(some 38), .bin .plain .eql (.t 14) (.k (.int .i64 3)),none,[]⟩,⟨(some 37), .mv (.t 38),none,[]⟩]) (.cond (.t 37) (.reg [] [⟨(some 39), .mv (.t 0),none,[]⟩,⟨(some 40), .fa 3 (.t 3),none,[]⟩,⟨(some 41), .load false 1 (.t 40),none,[]⟩,⟨(some 42), .qcall n_coder_Bytes [(.t 41)] [],none,[]⟩,⟨(some 43), .app 1 ty_uint8 1 1 (.t 39) (.t 42),none,[]⟩,⟨(some 0), .mv (.t 43),none,[]⟩]) .skip)))))))) (.seq (.seq (.reg [] [⟨(some 44), .fa 4 (.t 3),none,[]⟩,⟨(some 45), .load false 1 (.t 44),none,[]⟩,⟨(some 46), .len false (.t 45),none,[]⟩,⟨(some 47), .mv (.k (.int .i64 0)),none,[]⟩]) (.block 1 i_code_write_j1 (.loop i_code_write_k0 i_code_write_b0))) (.seq (.reg [] [⟨(some 55), .mv (.t 0),none,[]⟩,⟨(some 4), .mv (.t 55),none,[]⟩]) (.ret i_code_write_r)))))),
 [.tmp 4], [true], false, [i_,o_]⟩

def i_law00_Code_r : List Bool := [o_,o_,i_,o_,o_,o_,o_,o_,o_,o_,o_,o_,o_,o_,o_]
def i_law00_Code_j1 : List Bool := [i_,o_,o_,i_,o_,o_,o_,o_,o_,o_,o_,o_,o_,o_,o_]
def i_law00_Code_k0 : List Bool := [i_,o_,o_,i_,o_,o_,o_,o_,o_,o_,o_,o_,o_,o_,o_]
def i_law00_Code_j0 : List Bool := [o_,o_,o_,o_,o_,o_,o_,o_,o_,o_,o_,o_,o_,o_,o_]
abbrev s_law00_Code_R (t2 : AV) (h : Heap) : St := ⟨[u_,u_,t2, u_,u_,u_,u_,u_,u_,u_,u_,u_,u_,u_,u_], h⟩
abbrev s_law00_Code_K0 (t0 t3 : AV) (h : Heap) : St := ⟨[t0, u_,u_,t3, u_,u_,u_,u_,u_,u_,u_,u_,u_,u_,u_], h⟩
def i_law00_Code_b0 : IR := (.seq (.seq (.reg [] [⟨(some 6), .mv (.t 3),none,[]⟩,⟨(some 7), .bin .plain .leq (.t 6) (.k (.int .i64 13)),none,[]⟩]) (.cond (.t 7) .skip (.exit 0 i_law00_Code_j0))) (.seq (.block 1 i_law00_Code_j1 (.seq (.reg [] [⟨(some 10), .mv (.t 0),none,[]⟩,⟨(some 11), .mv (.t 3),none,[]⟩,⟨(some 12), .mki ty_api_Code (.t 11),none,[]⟩,⟨(some 13), .bin (.iface ty_api_Code false) .eql (.t 10) (.t 12),none,[]⟩]) (.cond (.t 13) (.seq (.reg [] [⟨(some 14), .mv (.t 3),none,[]⟩,⟨(some 2), .mv (.t 14),none,[]⟩]) (.ret i_law00_Code_r)) .skip))) (.reg [] [⟨(some 8), .mv (.t 3),none,[]⟩,⟨(some 9), .bin .plain .add (.t 8) (.k (.int .i64 1)),none,[]⟩,⟨(some 3), .mv (.t 9),none,[]⟩])))

abbrev s_law00_Code_J0 (h : Heap) : St := ⟨[u_,u_,u_,u_,u_,u_,u_,u_,u_,u_,u_,u_,u_,u_,u_], h⟩
/-- heartwood/heartwoodlaw00.Code -/
def i_law00_Code : Ev.Fn := ⟨1, 15, 0, (.seq (.reg [] [⟨(some 2), .mv (.k (.int .i64 0)),none,[]⟩]) (.seq (.seq (.reg [] [⟨(some 4), .mv (.t 0),none,[]⟩,⟨(some 5), .bin (.iface ty_api_Code true) .eql (.t 4) (.k .nilIface),none,[]⟩]) (.cond (.t 5) (.seq (.reg [] [⟨(some 2), .mv (.k (.int .i64 0)),none,[]⟩]) (.ret i_law00_Code_r)) .skip)) (.seq (.seq (.reg [] [⟨(some 3), .mv (.k (.int .i64 1)),none,[]⟩]) (.block 0 i_law00_Code_j0 (.loop i_law00_Code_k0 i_law00_Code_b0))) (.seq (.reg [] [⟨(some 2), .mv (.k (.int .i64 (-1))),none,[]⟩]) (.ret i_law00_Code_r))))),
 [.tmp 2], [], false, []⟩

def tab (f : Nat) : Option Ev.Fn := match f with
  | 11 => some i_law14_EntryStays
  | 29 => some i_law14_up
  | 31 => some i_entry_WriteLog
  | 56 => some i_entry_writer_counts
  | 93 => some i_coder_Number
  | 57 => some i_entry_writer_members
  | 58 => some i_entry_writer_entries
  | 81 => some i_entry_writer_bytes
  | 107 => some i_coder_Bytes
  | 59 => some i_entry_writer_end
  | 35 => some i_entry_Read
  | 64 => some i_coder_NewReader
  | 95 => some i_slices_Clone_sl_byte_byte
  | 65 => some i_entry_reader_count
  | 96 => some i_coder_Reader_Number
  | 69 => some i_coder_Reader_Byte
  | 99 => some i_coder_Reader_take
  | 67 => some i_entry_reader_entries
  | 97 => some i_entry_reader_fine
  | 98 => some i_coder_Reader_End
  | 70 => some i_coder_Reader_Bytes
  | 66 => some i_entry_reader_members
  | 71 => some i_code_Read
  | 100 => some i_code_Read_1
  | 68 => some i_entry_reader_end
  | 30 => some i_law14_few
  | 39 => some i_ref04_Light
  | 1000035 => some i_entry_Read_v1
  | 1000064 => some i_coder_NewReader_v1
  | 1000095 => some i_slices_Clone_sl_byte_byte_v1
  | 38 => some i_ref14_Write
  | 60 => some i_ref14_Writer_count
  | 94 => some i_ref02_Number
  | 62 => some i_ref14_Writer_entries
  | 79 => some i_ref14_Writer_bytes
  | 103 => some i_ref02_Bytes
  | 61 => some i_ref14_Writer_members
  | 80 => some i_ref10_Write
  | 104 => some i_ref04_Check
  | 111 => some i_ref04_Deep
  | 112 => some i_ref04_Formed
  | 105 => some i_ref10_long
  | 106 => some i_ref10_bytes
  | 63 => some i_ref14_Writer_end
  | 40 => some i_entry_Write
  | 82 => some i_code_Write
  | 108 => some i_tree_Check
  | 113 => some i_tree_deep
  | 116 => some i_tree_deep_1
  | 115 => some i_slices_ContainsFunc_sl_api_Tree_api_Tree
  | 118 => some i_slices_IndexFunc_sl_api_Tree_api_Tree
  | 114 => some i_tree_formed
  | 117 => some i_tree_formed_1
  | 109 => some i_code_long
  | 110 => some i_code_write
  | 33 => some i_law00_Code
  | _ => none
theorem t_law14_EntryStays : tab n_law14_EntryStays = some i_law14_EntryStays := rfl
theorem t_law14_up : tab n_law14_up = some i_law14_up := rfl
theorem t_entry_WriteLog : tab n_entry_WriteLog = some i_entry_WriteLog := rfl
theorem t_entry_writer_counts : tab n_entry_writer_counts = some i_entry_writer_counts := rfl
theorem t_coder_Number : tab n_coder_Number = some i_coder_Number := rfl
theorem t_entry_writer_members : tab n_entry_writer_members = some i_entry_writer_members := rfl
theorem t_entry_writer_entries : tab n_entry_writer_entries = some i_entry_writer_entries := rfl
theorem t_entry_writer_bytes : tab n_entry_writer_bytes = some i_entry_writer_bytes := rfl
theorem t_coder_Bytes : tab n_coder_Bytes = some i_coder_Bytes := rfl
theorem t_entry_writer_end : tab n_entry_writer_end = some i_entry_writer_end := rfl
theorem t_entry_Read : tab n_entry_Read = some i_entry_Read := rfl
theorem t_coder_NewReader : tab n_coder_NewReader = some i_coder_NewReader := rfl
theorem t_slices_Clone_sl_byte_byte : tab n_slices_Clone_sl_byte_byte = some i_slices_Clone_sl_byte_byte := rfl
theorem t_entry_reader_count : tab n_entry_reader_count = some i_entry_reader_count := rfl
theorem t_coder_Reader_Number : tab n_coder_Reader_Number = some i_coder_Reader_Number := rfl
theorem t_coder_Reader_Byte : tab n_coder_Reader_Byte = some i_coder_Reader_Byte := rfl
theorem t_coder_Reader_take : tab n_coder_Reader_take = some i_coder_Reader_take := rfl
theorem t_entry_reader_entries : tab n_entry_reader_entries = some i_entry_reader_entries := rfl
theorem t_entry_reader_fine : tab n_entry_reader_fine = some i_entry_reader_fine := rfl
theorem t_coder_Reader_End : tab n_coder_Reader_End = some i_coder_Reader_End := rfl
theorem t_coder_Reader_Bytes : tab n_coder_Reader_Bytes = some i_coder_Reader_Bytes := rfl
theorem t_entry_reader_members : tab n_entry_reader_members = some i_entry_reader_members := rfl
theorem t_code_Read : tab n_code_Read = some i_code_Read := rfl
theorem t_code_Read_1 : tab n_code_Read_1 = some i_code_Read_1 := rfl
theorem t_entry_reader_end : tab n_entry_reader_end = some i_entry_reader_end := rfl
theorem t_law14_few : tab n_law14_few = some i_law14_few := rfl
theorem t_ref04_Light : tab n_ref04_Light = some i_ref04_Light := rfl
theorem t_entry_Read_v1 : tab n_entry_Read_v1 = some i_entry_Read_v1 := rfl
theorem t_coder_NewReader_v1 : tab n_coder_NewReader_v1 = some i_coder_NewReader_v1 := rfl
theorem t_slices_Clone_sl_byte_byte_v1 : tab n_slices_Clone_sl_byte_byte_v1 = some i_slices_Clone_sl_byte_byte_v1 := rfl
theorem t_ref14_Write : tab n_ref14_Write = some i_ref14_Write := rfl
theorem t_ref14_Writer_count : tab n_ref14_Writer_count = some i_ref14_Writer_count := rfl
theorem t_ref02_Number : tab n_ref02_Number = some i_ref02_Number := rfl
theorem t_ref14_Writer_entries : tab n_ref14_Writer_entries = some i_ref14_Writer_entries := rfl
theorem t_ref14_Writer_bytes : tab n_ref14_Writer_bytes = some i_ref14_Writer_bytes := rfl
theorem t_ref02_Bytes : tab n_ref02_Bytes = some i_ref02_Bytes := rfl
theorem t_ref14_Writer_members : tab n_ref14_Writer_members = some i_ref14_Writer_members := rfl
theorem t_ref10_Write : tab n_ref10_Write = some i_ref10_Write := rfl
theorem t_ref04_Check : tab n_ref04_Check = some i_ref04_Check := rfl
theorem t_ref04_Deep : tab n_ref04_Deep = some i_ref04_Deep := rfl
theorem t_ref04_Formed : tab n_ref04_Formed = some i_ref04_Formed := rfl
theorem t_ref10_long : tab n_ref10_long = some i_ref10_long := rfl
theorem t_ref10_bytes : tab n_ref10_bytes = some i_ref10_bytes := rfl
theorem t_ref14_Writer_end : tab n_ref14_Writer_end = some i_ref14_Writer_end := rfl
theorem t_entry_Write : tab n_entry_Write = some i_entry_Write := rfl
theorem t_code_Write : tab n_code_Write = some i_code_Write := rfl
theorem t_tree_Check : tab n_tree_Check = some i_tree_Check := rfl
theorem t_tree_deep : tab n_tree_deep = some i_tree_deep := rfl
theorem t_tree_deep_1 : tab n_tree_deep_1 = some i_tree_deep_1 := rfl
theorem t_slices_ContainsFunc_sl_api_Tree_api_Tree : tab n_slices_ContainsFunc_sl_api_Tree_api_Tree = some i_slices_ContainsFunc_sl_api_Tree_api_Tree := rfl
theorem t_slices_IndexFunc_sl_api_Tree_api_Tree : tab n_slices_IndexFunc_sl_api_Tree_api_Tree = some i_slices_IndexFunc_sl_api_Tree_api_Tree := rfl
theorem t_tree_formed : tab n_tree_formed = some i_tree_formed := rfl
theorem t_tree_formed_1 : tab n_tree_formed_1 = some i_tree_formed_1 := rfl
theorem t_code_long : tab n_code_long = some i_code_long := rfl
theorem t_code_write : tab n_code_write = some i_code_write := rfl
theorem t_law00_Code : tab n_law00_Code = some i_law00_Code := rfl
def G0 : Cf := ⟨fun _ => [], true⟩
@[go_sem] theorem G0_gf : G0.gf = true := rfl
@[go_sem] theorem lt_law14_EntryStays : (n_law14_EntryStays < 1000000) = True := eq_true (by decide)
@[go_sem] theorem lt_law14_up : (n_law14_up < 1000000) = True := eq_true (by decide)
@[go_sem] theorem lt_entry_WriteLog : (n_entry_WriteLog < 1000000) = True := eq_true (by decide)
@[go_sem] theorem lt_entry_writer_counts : (n_entry_writer_counts < 1000000) = True := eq_true (by decide)
@[go_sem] theorem lt_coder_Number : (n_coder_Number < 1000000) = True := eq_true (by decide)
@[go_sem] theorem lt_entry_writer_members : (n_entry_writer_members < 1000000) = True := eq_true (by decide)
@[go_sem] theorem lt_entry_writer_entries : (n_entry_writer_entries < 1000000) = True := eq_true (by decide)
@[go_sem] theorem lt_entry_writer_bytes : (n_entry_writer_bytes < 1000000) = True := eq_true (by decide)
@[go_sem] theorem lt_coder_Bytes : (n_coder_Bytes < 1000000) = True := eq_true (by decide)
@[go_sem] theorem lt_entry_writer_end : (n_entry_writer_end < 1000000) = True := eq_true (by decide)
@[go_sem] theorem lt_entry_Read : (n_entry_Read < 1000000) = True := eq_true (by decide)
@[go_sem] theorem lt_coder_NewReader : (n_coder_NewReader < 1000000) = True := eq_true (by decide)
@[go_sem] theorem lt_slices_Clone_sl_byte_byte : (n_slices_Clone_sl_byte_byte < 1000000) = True := eq_true (by decide)
@[go_sem] theorem lt_entry_reader_count : (n_entry_reader_count < 1000000) = True := eq_true (by decide)
@[go_sem] theorem lt_coder_Reader_Number : (n_coder_Reader_Number < 1000000) = True := eq_true (by decide)
@[go_sem] theorem lt_coder_Reader_Byte : (n_coder_Reader_Byte < 1000000) = True := eq_true (by decide)
@[go_sem] theorem lt_coder_Reader_take : (n_coder_Reader_take < 1000000) = True := eq_true (by decide)
@[go_sem] theorem lt_entry_reader_entries : (n_entry_reader_entries < 1000000) = True := eq_true (by decide)
@[go_sem] theorem lt_entry_reader_fine : (n_entry_reader_fine < 1000000) = True := eq_true (by decide)
@[go_sem] theorem lt_coder_Reader_End : (n_coder_Reader_End < 1000000) = True := eq_true (by decide)
@[go_sem] theorem lt_coder_Reader_Bytes : (n_coder_Reader_Bytes < 1000000) = True := eq_true (by decide)
@[go_sem] theorem lt_entry_reader_members : (n_entry_reader_members < 1000000) = True := eq_true (by decide)
@[go_sem] theorem lt_code_Read : (n_code_Read < 1000000) = True := eq_true (by decide)
@[go_sem] theorem lt_code_Read_1 : (n_code_Read_1 < 1000000) = True := eq_true (by decide)
@[go_sem] theorem lt_entry_reader_end : (n_entry_reader_end < 1000000) = True := eq_true (by decide)
@[go_sem] theorem lt_law14_few : (n_law14_few < 1000000) = True := eq_true (by decide)
@[go_sem] theorem lt_ref04_Light : (n_ref04_Light < 1000000) = True := eq_true (by decide)
@[go_sem] theorem lt_ref14_Write : (n_ref14_Write < 1000000) = True := eq_true (by decide)
@[go_sem] theorem lt_ref14_Writer_count : (n_ref14_Writer_count < 1000000) = True := eq_true (by decide)
@[go_sem] theorem lt_ref02_Number : (n_ref02_Number < 1000000) = True := eq_true (by decide)
@[go_sem] theorem lt_ref14_Writer_entries : (n_ref14_Writer_entries < 1000000) = True := eq_true (by decide)
@[go_sem] theorem lt_ref14_Writer_bytes : (n_ref14_Writer_bytes < 1000000) = True := eq_true (by decide)
@[go_sem] theorem lt_ref02_Bytes : (n_ref02_Bytes < 1000000) = True := eq_true (by decide)
@[go_sem] theorem lt_ref14_Writer_members : (n_ref14_Writer_members < 1000000) = True := eq_true (by decide)
@[go_sem] theorem lt_ref10_Write : (n_ref10_Write < 1000000) = True := eq_true (by decide)
@[go_sem] theorem lt_ref04_Check : (n_ref04_Check < 1000000) = True := eq_true (by decide)
@[go_sem] theorem lt_ref04_Deep : (n_ref04_Deep < 1000000) = True := eq_true (by decide)
@[go_sem] theorem lt_ref04_Formed : (n_ref04_Formed < 1000000) = True := eq_true (by decide)
@[go_sem] theorem lt_ref10_long : (n_ref10_long < 1000000) = True := eq_true (by decide)
@[go_sem] theorem lt_ref10_bytes : (n_ref10_bytes < 1000000) = True := eq_true (by decide)
@[go_sem] theorem lt_ref14_Writer_end : (n_ref14_Writer_end < 1000000) = True := eq_true (by decide)
@[go_sem] theorem lt_entry_Write : (n_entry_Write < 1000000) = True := eq_true (by decide)
@[go_sem] theorem lt_code_Write : (n_code_Write < 1000000) = True := eq_true (by decide)
@[go_sem] theorem lt_tree_Check : (n_tree_Check < 1000000) = True := eq_true (by decide)
@[go_sem] theorem lt_tree_deep : (n_tree_deep < 1000000) = True := eq_true (by decide)
@[go_sem] theorem lt_tree_deep_1 : (n_tree_deep_1 < 1000000) = True := eq_true (by decide)
@[go_sem] theorem lt_slices_ContainsFunc_sl_api_Tree_api_Tree : (n_slices_ContainsFunc_sl_api_Tree_api_Tree < 1000000) = True := eq_true (by decide)
@[go_sem] theorem lt_slices_IndexFunc_sl_api_Tree_api_Tree : (n_slices_IndexFunc_sl_api_Tree_api_Tree < 1000000) = True := eq_true (by decide)
@[go_sem] theorem lt_tree_formed : (n_tree_formed < 1000000) = True := eq_true (by decide)
@[go_sem] theorem lt_tree_formed_1 : (n_tree_formed_1 < 1000000) = True := eq_true (by decide)
@[go_sem] theorem lt_code_long : (n_code_long < 1000000) = True := eq_true (by decide)
@[go_sem] theorem lt_code_write : (n_code_write < 1000000) = True := eq_true (by decide)
@[go_sem] theorem lt_law00_Code : (n_law00_Code < 1000000) = True := eq_true (by decide)
theorem ca_law14_EntryStays (l : List AV) : cArgs tab n_law14_EntryStays l = canonA [i_,o_] l := rfl
attribute [go_sem] t_law14_EntryStays ca_law14_EntryStays
theorem ca_law14_up (l : List AV) : cArgs tab n_law14_up l = canonA [] l := rfl
attribute [go_sem] t_law14_up ca_law14_up
theorem ca_entry_WriteLog (l : List AV) : cArgs tab n_entry_WriteLog l = canonA [] l := rfl
attribute [go_sem] t_entry_WriteLog ca_entry_WriteLog
theorem ca_entry_writer_counts (l : List AV) : cArgs tab n_entry_writer_counts l = canonA [] l := rfl
attribute [go_sem] t_entry_writer_counts ca_entry_writer_counts
theorem ca_coder_Number (l : List AV) : cArgs tab n_coder_Number l = canonA [] l := rfl
attribute [go_sem] t_coder_Number ca_coder_Number
theorem ca_entry_writer_members (l : List AV) : cArgs tab n_entry_writer_members l = canonA [] l := rfl
attribute [go_sem] t_entry_writer_members ca_entry_writer_members
theorem ca_entry_writer_entries (l : List AV) : cArgs tab n_entry_writer_entries l = canonA [] l := rfl
attribute [go_sem] t_entry_writer_entries ca_entry_writer_entries
theorem ca_entry_writer_bytes (l : List AV) : cArgs tab n_entry_writer_bytes l = canonA [] l := rfl
attribute [go_sem] t_entry_writer_bytes ca_entry_writer_bytes
theorem ca_coder_Bytes (l : List AV) : cArgs tab n_coder_Bytes l = canonA [] l := rfl
attribute [go_sem] t_coder_Bytes ca_coder_Bytes
theorem ca_entry_writer_end (l : List AV) : cArgs tab n_entry_writer_end l = canonA [] l := rfl
attribute [go_sem] t_entry_writer_end ca_entry_writer_end
theorem ca_entry_Read (l : List AV) : cArgs tab n_entry_Read l = canonA [] l := rfl
attribute [go_sem] t_entry_Read ca_entry_Read
theorem ca_coder_NewReader (l : List AV) : cArgs tab n_coder_NewReader l = canonA [] l := rfl
attribute [go_sem] t_coder_NewReader ca_coder_NewReader
theorem ca_slices_Clone_sl_byte_byte (l : List AV) : cArgs tab n_slices_Clone_sl_byte_byte l = canonA [] l := rfl
attribute [go_sem] t_slices_Clone_sl_byte_byte ca_slices_Clone_sl_byte_byte
theorem ca_entry_reader_count (l : List AV) : cArgs tab n_entry_reader_count l = canonA [] l := rfl
attribute [go_sem] t_entry_reader_count ca_entry_reader_count
theorem ca_coder_Reader_Number (l : List AV) : cArgs tab n_coder_Reader_Number l = canonA [] l := rfl
attribute [go_sem] t_coder_Reader_Number ca_coder_Reader_Number
theorem ca_coder_Reader_Byte (l : List AV) : cArgs tab n_coder_Reader_Byte l = canonA [] l := rfl
attribute [go_sem] t_coder_Reader_Byte ca_coder_Reader_Byte
theorem ca_coder_Reader_take (l : List AV) : cArgs tab n_coder_Reader_take l = canonA [] l := rfl
attribute [go_sem] t_coder_Reader_take ca_coder_Reader_take
theorem ca_entry_reader_entries (l : List AV) : cArgs tab n_entry_reader_entries l = canonA [] l := rfl
attribute [go_sem] t_entry_reader_entries ca_entry_reader_entries
theorem ca_entry_reader_fine (l : List AV) : cArgs tab n_entry_reader_fine l = canonA [] l := rfl
attribute [go_sem] t_entry_reader_fine ca_entry_reader_fine
theorem ca_coder_Reader_End (l : List AV) : cArgs tab n_coder_Reader_End l = canonA [] l := rfl
attribute [go_sem] t_coder_Reader_End ca_coder_Reader_End
theorem ca_coder_Reader_Bytes (l : List AV) : cArgs tab n_coder_Reader_Bytes l = canonA [] l := rfl
attribute [go_sem] t_coder_Reader_Bytes ca_coder_Reader_Bytes
theorem ca_entry_reader_members (l : List AV) : cArgs tab n_entry_reader_members l = canonA [] l := rfl
attribute [go_sem] t_entry_reader_members ca_entry_reader_members
theorem ca_code_Read (l : List AV) : cArgs tab n_code_Read l = canonA [] l := rfl
attribute [go_sem] t_code_Read ca_code_Read
theorem ca_code_Read_1 (l : List AV) : cArgs tab n_code_Read_1 l = canonA [] l := rfl
attribute [go_sem] t_code_Read_1 ca_code_Read_1
theorem ca_entry_reader_end (l : List AV) : cArgs tab n_entry_reader_end l = canonA [] l := rfl
attribute [go_sem] t_entry_reader_end ca_entry_reader_end
theorem ca_law14_few (l : List AV) : cArgs tab n_law14_few l = canonA [] l := rfl
attribute [go_sem] t_law14_few ca_law14_few
theorem ca_ref04_Light (l : List AV) : cArgs tab n_ref04_Light l = canonA [] l := rfl
attribute [go_sem] t_ref04_Light ca_ref04_Light
theorem ca_entry_Read_v1 (l : List AV) : cArgs tab n_entry_Read_v1 l = canonA [true] l := rfl
attribute [go_sem] t_entry_Read_v1 ca_entry_Read_v1
theorem ca_coder_NewReader_v1 (l : List AV) : cArgs tab n_coder_NewReader_v1 l = canonA [true] l := rfl
attribute [go_sem] t_coder_NewReader_v1 ca_coder_NewReader_v1
theorem ca_slices_Clone_sl_byte_byte_v1 (l : List AV) : cArgs tab n_slices_Clone_sl_byte_byte_v1 l = canonA [true] l := rfl
attribute [go_sem] t_slices_Clone_sl_byte_byte_v1 ca_slices_Clone_sl_byte_byte_v1
theorem ca_ref14_Write (l : List AV) : cArgs tab n_ref14_Write l = canonA [] l := rfl
attribute [go_sem] t_ref14_Write ca_ref14_Write
theorem ca_ref14_Writer_count (l : List AV) : cArgs tab n_ref14_Writer_count l = canonA [] l := rfl
attribute [go_sem] t_ref14_Writer_count ca_ref14_Writer_count
theorem ca_ref02_Number (l : List AV) : cArgs tab n_ref02_Number l = canonA [] l := rfl
attribute [go_sem] t_ref02_Number ca_ref02_Number
theorem ca_ref14_Writer_entries (l : List AV) : cArgs tab n_ref14_Writer_entries l = canonA [] l := rfl
attribute [go_sem] t_ref14_Writer_entries ca_ref14_Writer_entries
theorem ca_ref14_Writer_bytes (l : List AV) : cArgs tab n_ref14_Writer_bytes l = canonA [] l := rfl
attribute [go_sem] t_ref14_Writer_bytes ca_ref14_Writer_bytes
theorem ca_ref02_Bytes (l : List AV) : cArgs tab n_ref02_Bytes l = canonA [] l := rfl
attribute [go_sem] t_ref02_Bytes ca_ref02_Bytes
theorem ca_ref14_Writer_members (l : List AV) : cArgs tab n_ref14_Writer_members l = canonA [] l := rfl
attribute [go_sem] t_ref14_Writer_members ca_ref14_Writer_members
theorem ca_ref10_Write (l : List AV) : cArgs tab n_ref10_Write l = canonA [] l := rfl
attribute [go_sem] t_ref10_Write ca_ref10_Write
theorem ca_ref04_Check (l : List AV) : cArgs tab n_ref04_Check l = canonA [] l := rfl
attribute [go_sem] t_ref04_Check ca_ref04_Check
theorem ca_ref04_Deep (l : List AV) : cArgs tab n_ref04_Deep l = canonA [] l := rfl
attribute [go_sem] t_ref04_Deep ca_ref04_Deep
theorem ca_ref04_Formed (l : List AV) : cArgs tab n_ref04_Formed l = canonA [] l := rfl
attribute [go_sem] t_ref04_Formed ca_ref04_Formed
theorem ca_ref10_long (l : List AV) : cArgs tab n_ref10_long l = canonA [] l := rfl
attribute [go_sem] t_ref10_long ca_ref10_long
theorem ca_ref10_bytes (l : List AV) : cArgs tab n_ref10_bytes l = canonA [] l := rfl
attribute [go_sem] t_ref10_bytes ca_ref10_bytes
theorem ca_ref14_Writer_end (l : List AV) : cArgs tab n_ref14_Writer_end l = canonA [] l := rfl
attribute [go_sem] t_ref14_Writer_end ca_ref14_Writer_end
theorem ca_entry_Write (l : List AV) : cArgs tab n_entry_Write l = canonA [] l := rfl
attribute [go_sem] t_entry_Write ca_entry_Write
theorem ca_code_Write (l : List AV) : cArgs tab n_code_Write l = canonA [] l := rfl
attribute [go_sem] t_code_Write ca_code_Write
theorem ca_tree_Check (l : List AV) : cArgs tab n_tree_Check l = canonA [] l := rfl
attribute [go_sem] t_tree_Check ca_tree_Check
theorem ca_tree_deep (l : List AV) : cArgs tab n_tree_deep l = canonA [] l := rfl
attribute [go_sem] t_tree_deep ca_tree_deep
theorem ca_tree_deep_1 (l : List AV) : cArgs tab n_tree_deep_1 l = canonA [] l := rfl
attribute [go_sem] t_tree_deep_1 ca_tree_deep_1
theorem ca_slices_ContainsFunc_sl_api_Tree_api_Tree (l : List AV) : cArgs tab n_slices_ContainsFunc_sl_api_Tree_api_Tree l = canonA [] l := rfl
attribute [go_sem] t_slices_ContainsFunc_sl_api_Tree_api_Tree ca_slices_ContainsFunc_sl_api_Tree_api_Tree
theorem ca_slices_IndexFunc_sl_api_Tree_api_Tree (l : List AV) : cArgs tab n_slices_IndexFunc_sl_api_Tree_api_Tree l = canonA [] l := rfl
attribute [go_sem] t_slices_IndexFunc_sl_api_Tree_api_Tree ca_slices_IndexFunc_sl_api_Tree_api_Tree
theorem ca_tree_formed (l : List AV) : cArgs tab n_tree_formed l = canonA [] l := rfl
attribute [go_sem] t_tree_formed ca_tree_formed
theorem ca_tree_formed_1 (l : List AV) : cArgs tab n_tree_formed_1 l = canonA [] l := rfl
attribute [go_sem] t_tree_formed_1 ca_tree_formed_1
theorem ca_code_long (l : List AV) : cArgs tab n_code_long l = canonA [] l := rfl
attribute [go_sem] t_code_long ca_code_long
theorem ca_code_write (l : List AV) : cArgs tab n_code_write l = canonA [i_,o_] l := rfl
attribute [go_sem] t_code_write ca_code_write
theorem ca_law00_Code (l : List AV) : cArgs tab n_law00_Code l = canonA [] l := rfl
attribute [go_sem] t_law00_Code ca_law00_Code
@[go_sem] theorem kt_law14_EntryStays_r (l : List AV) : keepT i_law14_EntryStays_r l = keepT [o_,o_,o_,o_,i_,o_,o_,o_,o_,o_,o_,o_,o_,o_,o_,o_,o_,o_,o_,o_,o_,o_,o_,o_,o_,o_,o_,o_,o_,o_,o_,o_,o_,o_,o_,o_,o_,o_,o_,o_,o_,o_,o_,o_,o_,o_,o_,o_,o_,o_,o_,o_,o_,o_,o_,o_,o_,o_,o_,o_,o_,o_,o_,o_,o_,o_,o_,o_,o_,o_,o_,o_,o_,o_,o_,o_,o_,o_,o_,o_,o_,o_,o_,o_,o_,o_,o_,o_,o_,o_,o_,o_,o_,o_,o_,o_,o_,o_,o_,o_,o_,o_,o_,o_,o_,o_,o_,o_,o_,o_,o_,o_,o_,o_,o_,o_,o_,o_,o_,o_,o_,o_,o_,o_,o_,o_,o_,o_,o_,o_,o_,o_,o_,o_,o_,o_,o_,o_,o_,o_,o_,o_,o_] l := rfl
@[go_sem] theorem kt_law14_EntryStays_j1 (l : List AV) : keepT i_law14_EntryStays_j1 l = keepT [i_,o_,o_,i_,o_,i_,i_,i_,i_,i_,i_,o_,o_,o_,o_,o_,o_,o_,o_,o_,o_,o_,o_,o_,o_,o_,o_,o_,o_,o_,o_,o_,o_,o_,o_,o_,o_,o_,o_,o_,o_,o_,o_,o_,o_,o_,o_,o_,o_,o_,o_,o_,o_,o_,o_,o_,o_,o_,o_,o_,o_,o_,o_,o_,o_,o_,o_,o_,o_,o_,o_,o_,o_,o_,o_,o_,o_,o_,o_,o_,o_,o_,o_,o_,o_,o_,o_,o_,o_,o_,o_,o_,o_,o_,o_,o_,o_,o_,o_,o_,o_,o_,o_,o_,o_,o_,o_,o_,o_,o_,o_,o_,o_,o_,o_,o_,o_,o_,o_,o_,o_,o_,o_,o_,o_,o_,o_,o_,o_,o_,o_,o_,o_,o_,o_,o_,o_,o_,o_,o_,o_,o_,o_] l := rfl
@[go_sem] theorem kt_law14_EntryStays_k0 (l : List AV) : keepT i_law14_EntryStays_k0 l = keepT [i_,o_,o_,i_,o_,i_,i_,i_,i_,i_,i_,o_,o_,o_,o_,o_,o_,o_,o_,o_,o_,o_,o_,o_,o_,o_,o_,o_,o_,o_,o_,o_,o_,o_,o_,o_,o_,o_,o_,o_,o_,o_,o_,o_,o_,o_,o_,o_,o_,o_,o_,o_,o_,o_,o_,o_,o_,o_,o_,o_,o_,o_,o_,o_,o_,o_,o_,o_,o_,o_,o_,o_,o_,o_,o_,o_,o_,o_,o_,o_,o_,o_,o_,o_,o_,o_,o_,o_,o_,o_,o_,o_,o_,o_,o_,o_,o_,o_,o_,o_,o_,o_,o_,o_,o_,o_,o_,o_,o_,o_,o_,o_,o_,o_,o_,o_,o_,o_,o_,o_,o_,o_,o_,o_,o_,o_,o_,o_,o_,o_,o_,o_,o_,o_,o_,o_,o_,o_,o_,o_,o_,o_,o_] l := rfl
@[go_sem] theorem kt_law14_EntryStays_j0 (l : List AV) : keepT i_law14_EntryStays_j0 l = keepT [i_,o_,o_,i_,o_,i_,o_,i_,i_,i_,o_,o_,o_,o_,o_,o_,o_,o_,o_,o_,o_,o_,o_,o_,o_,o_,o_,o_,o_,o_,o_,o_,o_,o_,o_,o_,o_,o_,o_,o_,o_,o_,o_,o_,o_,o_,o_,o_,o_,o_,o_,o_,o_,o_,o_,o_,o_,o_,o_,o_,o_,o_,o_,o_,o_,o_,o_,o_,o_,o_,o_,o_,o_,o_,o_,o_,o_,o_,o_,o_,o_,o_,o_,o_,o_,o_,o_,o_,o_,o_,o_,o_,o_,o_,o_,o_,o_,o_,o_,o_,o_,o_,o_,o_,o_,o_,o_,o_,o_,o_,o_,o_,o_,o_,o_,o_,o_,o_,o_,o_,o_,o_,o_,o_,o_,o_,o_,o_,o_,o_,o_,o_,o_,o_,o_,o_,o_,o_,o_,o_,o_,o_,o_] l := rfl
@[go_sem] theorem kt_law14_EntryStays_j3 (l : List AV) : keepT i_law14_EntryStays_j3 l = keepT [o_,o_,o_,i_,o_,i_,o_,o_,i_,i_,o_,o_,i_,i_,o_,i_,o_,i_,o_,i_,o_,i_,o_,o_,o_,o_,o_,o_,o_,o_,o_,o_,o_,o_,o_,o_,o_,o_,o_,o_,o_,o_,o_,o_,o_,o_,o_,o_,o_,o_,o_,o_,o_,o_,o_,o_,o_,o_,o_,o_,o_,o_,o_,o_,o_,o_,o_,o_,o_,o_,o_,o_,o_,o_,o_,o_,o_,o_,o_,o_,o_,o_,o_,o_,o_,o_,o_,o_,o_,o_,o_,o_,o_,o_,o_,o_,o_,o_,o_,o_,o_,o_,o_,o_,o_,o_,o_,o_,o_,o_,o_,o_,o_,o_,o_,o_,o_,o_,o_,o_,o_,o_,o_,o_,o_,o_,o_,o_,o_,o_,o_,o_,o_,o_,o_,o_,o_,o_,o_,o_,o_,o_,o_] l := rfl
@[go_sem] theorem kt_law14_EntryStays_k1 (l : List AV) : keepT i_law14_EntryStays_k1 l = keepT [o_,o_,o_,i_,o_,i_,o_,o_,i_,i_,o_,o_,i_,i_,o_,i_,o_,i_,o_,i_,o_,i_,o_,o_,o_,o_,o_,o_,o_,o_,o_,o_,o_,o_,o_,o_,o_,o_,o_,o_,o_,o_,o_,o_,o_,o_,o_,o_,o_,o_,o_,o_,o_,o_,o_,o_,o_,o_,o_,o_,o_,o_,o_,o_,o_,o_,o_,o_,o_,o_,o_,o_,o_,o_,o_,o_,o_,o_,o_,o_,o_,o_,o_,o_,o_,o_,o_,o_,o_,o_,o_,o_,o_,o_,o_,o_,o_,o_,o_,o_,o_,o_,o_,o_,o_,o_,o_,o_,o_,o_,o_,o_,o_,o_,o_,o_,o_,o_,o_,o_,o_,o_,o_,o_,o_,o_,o_,o_,o_,o_,o_,o_,o_,o_,o_,o_,o_,o_,o_,o_,o_,o_,o_] l := rfl
@[go_sem] theorem kt_law14_EntryStays_j2 (l : List AV) : keepT i_law14_EntryStays_j2 l = keepT [o_,o_,o_,i_,o_,i_,o_,o_,i_,i_,o_,o_,i_,i_,o_,i_,o_,i_,o_,o_,o_,o_,o_,o_,o_,o_,o_,o_,o_,o_,o_,o_,o_,o_,o_,o_,o_,o_,o_,o_,o_,o_,o_,o_,o_,o_,o_,o_,o_,o_,o_,o_,o_,o_,o_,o_,o_,o_,o_,o_,o_,o_,o_,o_,o_,o_,o_,o_,o_,o_,o_,o_,o_,o_,o_,o_,o_,o_,o_,o_,o_,o_,o_,o_,o_,o_,o_,o_,o_,o_,o_,o_,o_,o_,o_,o_,o_,o_,o_,o_,o_,o_,o_,o_,o_,o_,o_,o_,o_,o_,o_,o_,o_,o_,o_,o_,o_,o_,o_,o_,o_,o_,o_,o_,o_,o_,o_,o_,o_,o_,o_,o_,o_,o_,o_,o_,o_,o_,o_,o_,o_,o_,o_] l := rfl
@[go_sem] theorem kt_law14_up_r (l : List AV) : keepT i_law14_up_r l = keepT [i_,o_,o_,o_,o_,o_,o_,o_,o_,o_,o_,o_,o_,o_,o_,o_,o_,o_,o_,o_,o_,o_,o_,o_,o_,o_] l := rfl
@[go_sem] theorem kt_entry_WriteLog_r (l : List AV) : keepT i_entry_WriteLog_r l = keepT [o_,o_,i_,i_,o_,o_,o_,o_,o_,o_,o_,o_,o_,o_,o_,o_,o_,o_,o_,o_,o_,o_,o_,o_,o_,o_,o_,o_,o_] l := rfl
@[go_sem] theorem kt_entry_writer_counts_r (l : List AV) : keepT i_entry_writer_counts_r l = keepT [o_,o_,o_,o_,o_,o_,o_,o_,o_,o_,o_,o_,o_,o_,o_,o_,o_,o_,o_,o_,o_,o_,o_,o_,o_,o_,o_,o_,o_,o_,o_,o_,o_] l := rfl
@[go_sem] theorem kt_entry_writer_counts_j1 (l : List AV) : keepT i_entry_writer_counts_j1 l = keepT [i_,o_,o_,o_,o_,o_,i_,i_,i_,o_,o_,o_,o_,o_,o_,o_,o_,o_,o_,o_,o_,o_,o_,o_,o_,o_,o_,o_,o_,o_,o_,o_,o_] l := rfl
@[go_sem] theorem kt_entry_writer_counts_k0 (l : List AV) : keepT i_entry_writer_counts_k0 l = keepT [i_,o_,o_,o_,o_,o_,i_,i_,i_,o_,o_,o_,o_,o_,o_,o_,o_,o_,o_,o_,o_,o_,o_,o_,o_,o_,o_,o_,o_,o_,o_,o_,o_] l := rfl
@[go_sem] theorem kt_entry_writer_counts_j0 (l : List AV) : keepT i_entry_writer_counts_j0 l = keepT [o_,o_,o_,o_,o_,o_,o_,o_,o_,o_,o_,o_,o_,o_,o_,o_,o_,o_,o_,o_,o_,o_,o_,o_,o_,o_,o_,o_,o_,o_,o_,o_,o_] l := rfl
@[go_sem] theorem kt_coder_Number_r (l : List AV) : keepT i_coder_Number_r l = keepT [o_,o_,i_,o_,o_,o_,o_,o_,o_,o_,o_,o_,o_,o_,o_,o_,o_,o_,o_,o_,o_,o_,o_,o_,o_,o_,o_,o_,o_,o_,o_,o_,o_,o_,o_,o_,o_,o_,o_,o_,o_,o_,o_] l := rfl
@[go_sem] theorem kt_coder_Number_j1 (l : List AV) : keepT i_coder_Number_j1 l = keepT [i_,o_,o_,i_,o_,o_,o_,o_,o_,o_,o_,o_,o_,o_,o_,o_,o_,o_,o_,o_,o_,o_,o_,o_,o_,o_,o_,o_,o_,o_,o_,o_,o_,o_,o_,o_,o_,o_,o_,o_,o_,o_,o_] l := rfl
@[go_sem] theorem kt_coder_Number_k0 (l : List AV) : keepT i_coder_Number_k0 l = keepT [i_,o_,o_,i_,o_,o_,o_,o_,o_,o_,o_,o_,o_,o_,o_,o_,o_,o_,o_,o_,o_,o_,o_,o_,o_,o_,o_,o_,o_,o_,o_,o_,o_,o_,o_,o_,o_,o_,o_,o_,o_,o_,o_] l := rfl
@[go_sem] theorem kt_coder_Number_j0 (l : List AV) : keepT i_coder_Number_j0 l = keepT [i_,o_,o_,i_,o_,o_,o_,o_,o_,o_,o_,o_,o_,o_,o_,o_,o_,o_,o_,o_,o_,o_,o_,o_,o_,o_,o_,o_,o_,o_,o_,o_,o_,o_,o_,o_,o_,o_,o_,o_,o_,o_,o_] l := rfl
@[go_sem] theorem kt_coder_Number_j3 (l : List AV) : keepT i_coder_Number_j3 l = keepT [i_,o_,o_,i_,i_,o_,o_,o_,o_,o_,o_,o_,o_,o_,o_,o_,o_,o_,o_,o_,o_,o_,o_,o_,o_,o_,i_,i_,o_,o_,o_,o_,o_,o_,o_,o_,o_,o_,o_,o_,o_,o_,o_] l := rfl
@[go_sem] theorem kt_coder_Number_k1 (l : List AV) : keepT i_coder_Number_k1 l = keepT [i_,o_,o_,i_,i_,o_,o_,o_,o_,o_,o_,o_,o_,o_,o_,o_,o_,o_,o_,o_,o_,o_,o_,o_,o_,o_,i_,i_,o_,o_,o_,o_,o_,o_,o_,o_,o_,o_,o_,o_,o_,o_,o_] l := rfl
@[go_sem] theorem kt_coder_Number_j2 (l : List AV) : keepT i_coder_Number_j2 l = keepT [o_,o_,o_,o_,i_,o_,o_,o_,o_,o_,o_,o_,o_,o_,o_,o_,o_,o_,o_,o_,o_,o_,o_,o_,o_,o_,o_,o_,o_,o_,o_,o_,o_,o_,o_,o_,o_,o_,o_,o_,o_,o_,o_] l := rfl
@[go_sem] theorem kt_entry_writer_members_r (l : List AV) : keepT i_entry_writer_members_r l = keepT [o_,o_,o_,o_,o_,o_,o_,o_,o_,o_,o_,o_] l := rfl
@[go_sem] theorem kt_entry_writer_entries_r (l : List AV) : keepT i_entry_writer_entries_r l = keepT [o_,o_,o_,o_,o_,o_,o_,o_,o_,o_,o_,o_,o_,o_,o_,o_,o_,o_,o_,o_,o_,o_,o_,o_,o_,o_,o_,o_,o_] l := rfl
@[go_sem] theorem kt_entry_writer_entries_j1 (l : List AV) : keepT i_entry_writer_entries_j1 l = keepT [i_,o_,o_,o_,o_,o_,o_,o_,o_,o_,o_,i_,i_,i_,o_,o_,o_,o_,o_,o_,o_,o_,o_,o_,o_,o_,o_,o_,o_] l := rfl
@[go_sem] theorem kt_entry_writer_entries_k0 (l : List AV) : keepT i_entry_writer_entries_k0 l = keepT [i_,o_,o_,o_,o_,o_,o_,o_,o_,o_,o_,i_,i_,i_,o_,o_,o_,o_,o_,o_,o_,o_,o_,o_,o_,o_,o_,o_,o_] l := rfl
@[go_sem] theorem kt_entry_writer_entries_j0 (l : List AV) : keepT i_entry_writer_entries_j0 l = keepT [o_,o_,o_,o_,o_,o_,o_,o_,o_,o_,o_,o_,o_,o_,o_,o_,o_,o_,o_,o_,o_,o_,o_,o_,o_,o_,o_,o_,o_] l := rfl
@[go_sem] theorem kt_entry_writer_bytes_r (l : List AV) : keepT i_entry_writer_bytes_r l = keepT [o_,o_,o_,o_,o_,o_,o_,o_,o_,o_,o_,o_,o_,o_,o_,o_,o_,o_,o_,o_,o_,o_,o_,o_,o_,o_,o_,o_,o_,o_,o_,o_,o_,o_] l := rfl
@[go_sem] theorem kt_coder_Bytes_r (l : List AV) : keepT i_coder_Bytes_r l = keepT [o_,o_,i_,o_,o_,o_,o_,o_,o_] l := rfl
@[go_sem] theorem kt_entry_writer_end_r (l : List AV) : keepT i_entry_writer_end_r l = keepT [o_,o_,i_,i_,o_,o_,o_,o_,o_,o_,o_,o_,o_,o_,o_,o_,o_,o_,o_,o_,o_,o_] l := rfl
@[go_sem] theorem kt_entry_writer_end_j0 (l : List AV) : keepT i_entry_writer_end_j0 l = keepT [i_,o_,o_,o_,o_,o_,o_,o_,o_,o_,o_,o_,o_,o_,o_,o_,o_,o_,o_,o_,o_,o_] l := rfl
@[go_sem] theorem kt_entry_Read_r (l : List AV) : keepT i_entry_Read_r l = keepT [o_,o_,i_,i_,o_,o_,o_,o_,o_,o_,o_,o_,o_,o_,o_,o_,o_,o_,o_,o_,o_,o_,o_,o_,o_,o_,o_,o_,o_,o_,o_,o_,o_,o_,o_,o_,o_,o_,o_,o_,o_,o_,o_,o_,o_,o_,o_,o_,o_,o_,o_,o_,o_,o_,o_,o_,o_,o_,o_,o_,o_,o_,o_,o_,o_,o_,o_,o_,o_,o_,o_,o_,o_,o_,o_,o_,o_,o_,o_,o_,o_,o_,o_,o_,o_,o_,o_,o_,o_,o_,o_,o_,o_,o_,o_,o_,o_] l := rfl
@[go_sem] theorem kt_coder_NewReader_r (l : List AV) : keepT i_coder_NewReader_r l = keepT [o_,o_,i_,o_,o_,o_,o_] l := rfl
@[go_sem] theorem kt_slices_Clone_sl_byte_byte_r (l : List AV) : keepT i_slices_Clone_sl_byte_byte_r l = keepT [o_,o_,i_,o_,o_,o_,o_,o_] l := rfl
@[go_sem] theorem kt_entry_reader_count_r (l : List AV) : keepT i_entry_reader_count_r l = keepT [o_,o_,i_,o_,o_,o_,o_,o_,o_,o_,o_,o_,o_,o_,o_,o_] l := rfl
@[go_sem] theorem kt_coder_Reader_Number_r (l : List AV) : keepT i_coder_Reader_Number_r l = keepT [o_,o_,i_,o_,o_,o_,o_,o_,o_,o_,o_,o_,o_,o_,o_,o_,o_,o_,o_,o_,o_,o_,o_,o_,o_,o_,o_,o_,o_,o_,o_,o_,o_,o_,o_,o_,o_,o_,o_,o_,o_,o_,o_,o_,o_,o_,o_,o_] l := rfl
@[go_sem] theorem kt_coder_Reader_Number_j1 (l : List AV) : keepT i_coder_Reader_Number_j1 l = keepT [i_,o_,o_,o_,i_,i_,o_,o_,o_,o_,o_,o_,o_,o_,o_,o_,o_,o_,o_,i_,i_,i_,o_,o_,o_,o_,o_,o_,o_,o_,o_,o_,o_,o_,o_,o_,o_,o_,o_,o_,o_,o_,o_,o_,o_,o_,o_,o_] l := rfl
@[go_sem] theorem kt_coder_Reader_Number_k0 (l : List AV) : keepT i_coder_Reader_Number_k0 l = keepT [i_,o_,o_,o_,i_,i_,o_,o_,o_,o_,o_,o_,o_,o_,o_,o_,o_,o_,o_,i_,i_,i_,o_,o_,o_,o_,o_,o_,o_,o_,o_,o_,o_,o_,o_,o_,o_,o_,o_,o_,o_,o_,o_,o_,o_,o_,o_,o_] l := rfl
@[go_sem] theorem kt_coder_Reader_Number_j0 (l : List AV) : keepT i_coder_Reader_Number_j0 l = keepT [i_,o_,o_,o_,i_,i_,o_,o_,o_,o_,o_,o_,o_,o_,o_,o_,o_,o_,o_,o_,o_,o_,o_,o_,o_,o_,o_,o_,o_,o_,o_,o_,o_,o_,o_,o_,o_,o_,o_,o_,o_,o_,o_,o_,o_,o_,o_,o_] l := rfl
@[go_sem] theorem kt_coder_Reader_Byte_r (l : List AV) : keepT i_coder_Reader_Byte_r l = keepT [o_,o_,i_,o_,o_,o_,o_,o_,o_,o_,o_,o_] l := rfl
@[go_sem] theorem kt_coder_Reader_take_r (l : List AV) : keepT i_coder_Reader_take_r l = keepT [o_,o_,o_,o_,i_,o_,o_,o_,o_,o_,o_,o_,o_,o_,o_,o_,o_,o_,o_,o_,o_,o_,o_,o_,o_,o_,o_,o_,o_,o_,o_,o_,o_,o_,o_,o_,o_,o_,o_] l := rfl
@[go_sem] theorem kt_entry_reader_entries_r (l : List AV) : keepT i_entry_reader_entries_r l = keepT [o_,o_,i_,o_,o_,o_,o_,o_,o_,o_,o_,o_,o_,o_,o_,o_,o_,o_,o_,o_,o_,o_,o_,o_,o_,o_,o_,o_,o_] l := rfl
@[go_sem] theorem kt_entry_reader_entries_j1 (l : List AV) : keepT i_entry_reader_entries_j1 l = keepT [i_,o_,o_,i_,i_,o_,o_,o_,o_,o_,o_,o_,o_,o_,o_,o_,o_,o_,o_,o_,o_,o_,o_,o_,o_,o_,o_,o_,o_] l := rfl
@[go_sem] theorem kt_entry_reader_entries_k0 (l : List AV) : keepT i_entry_reader_entries_k0 l = keepT [i_,o_,o_,i_,i_,o_,o_,o_,o_,o_,o_,o_,o_,o_,o_,o_,o_,o_,o_,o_,o_,o_,o_,o_,o_,o_,o_,o_,o_] l := rfl
@[go_sem] theorem kt_entry_reader_entries_j0 (l : List AV) : keepT i_entry_reader_entries_j0 l = keepT [o_,o_,o_,i_,o_,o_,o_,o_,o_,o_,o_,o_,o_,o_,o_,o_,o_,o_,o_,o_,o_,o_,o_,o_,o_,o_,o_,o_,o_] l := rfl
@[go_sem] theorem kt_entry_reader_fine_r (l : List AV) : keepT i_entry_reader_fine_r l = keepT [o_,o_,i_,o_,o_,o_,o_,o_,o_,o_,o_,o_,o_,o_,o_,o_,o_] l := rfl
@[go_sem] theorem kt_coder_Reader_End_r (l : List AV) : keepT i_coder_Reader_End_r l = keepT [o_,o_,i_,o_,o_,o_,o_,o_,o_,o_,o_,o_,o_,o_,o_,o_,o_] l := rfl
@[go_sem] theorem kt_coder_Reader_End_j0 (l : List AV) : keepT i_coder_Reader_End_j0 l = keepT [o_,o_,o_,o_,o_,o_,o_,o_,o_,o_,o_,o_,o_,o_,o_,o_,o_] l := rfl
@[go_sem] theorem kt_coder_Reader_Bytes_r (l : List AV) : keepT i_coder_Reader_Bytes_r l = keepT [o_,o_,o_,o_,i_,o_,o_,o_,o_,o_,o_,o_,o_,o_,o_,o_,o_,o_,o_,o_,o_,o_,o_,o_,o_,o_,o_,o_,o_,o_,o_,o_,o_,o_,o_,o_,o_,o_,o_] l := rfl
@[go_sem] theorem kt_entry_reader_members_r (l : List AV) : keepT i_entry_reader_members_r l = keepT [o_,o_,i_,o_,o_,o_,o_,o_,o_,o_,o_,o_,o_,o_,o_,o_,o_,o_,o_,o_,o_] l := rfl
@[go_sem] theorem kt_entry_reader_members_j1 (l : List AV) : keepT i_entry_reader_members_j1 l = keepT [i_,o_,o_,i_,i_,o_,o_,o_,o_,o_,o_,o_,o_,o_,o_,o_,o_,o_,o_,o_,o_] l := rfl
@[go_sem] theorem kt_entry_reader_members_k0 (l : List AV) : keepT i_entry_reader_members_k0 l = keepT [i_,o_,o_,i_,i_,o_,o_,o_,o_,o_,o_,o_,o_,o_,o_,o_,o_,o_,o_,o_,o_] l := rfl
@[go_sem] theorem kt_entry_reader_members_j0 (l : List AV) : keepT i_entry_reader_members_j0 l = keepT [o_,o_,o_,i_,o_,o_,o_,o_,o_,o_,o_,o_,o_,o_,o_,o_,o_,o_,o_,o_,o_] l := rfl
@[go_sem] theorem kt_code_Read_r (l : List AV) : keepT i_code_Read_r l = keepT [o_,o_,i_,i_,o_,o_,o_,o_,o_,o_,o_,o_,o_,o_,o_,o_,o_,o_,o_,o_,o_,o_,o_,o_,o_,o_,o_,o_,o_,o_,o_] l := rfl
@[go_sem] theorem kt_code_Read_j0 (l : List AV) : keepT i_code_Read_j0 l = keepT [o_,o_,i_,o_,o_,o_,o_,i_,o_,o_,o_,o_,o_,o_,o_,o_,o_,o_,o_,o_,o_,o_,o_,o_,o_,o_,o_,o_,o_,o_,o_] l := rfl
@[go_sem] theorem kt_code_Read_1_r (l : List AV) : keepT i_code_Read_1_r l = keepT [o_,o_,o_,o_,o_,i_,o_,o_,o_,o_,o_,o_,o_,o_,o_,o_,o_,o_,o_,o_,o_,o_,o_,o_,o_,o_,o_,o_,o_,o_,o_,o_,o_,o_,o_,o_,o_,o_,o_,o_,o_,o_,o_,o_,o_,o_,o_,o_,o_,o_,o_,o_,o_,o_,o_,o_,o_,o_,o_,o_,o_,o_,o_,o_] l := rfl
@[go_sem] theorem kt_code_Read_1_j0 (l : List AV) : keepT i_code_Read_1_j0 l = keepT [i_,i_,i_,i_,o_,i_,i_,o_,o_,o_,o_,o_,o_,o_,o_,o_,o_,o_,o_,o_,o_,o_,o_,o_,o_,o_,o_,o_,o_,o_,o_,o_,o_,o_,o_,o_,o_,o_,o_,o_,o_,o_,o_,o_,o_,o_,o_,o_,o_,o_,o_,o_,o_,o_,o_,o_,o_,o_,o_,o_,o_,o_,o_,o_] l := rfl
@[go_sem] theorem kt_entry_reader_end_r (l : List AV) : keepT i_entry_reader_end_r l = keepT [o_,o_,i_,o_,o_,o_,o_,o_,o_,o_,o_,o_] l := rfl
@[go_sem] theorem kt_law14_few_r (l : List AV) : keepT i_law14_few_r l = keepT [o_,o_,i_,o_,o_,o_,o_,o_,o_,o_,o_,o_,o_,o_,o_,o_,o_,o_,o_,o_] l := rfl
@[go_sem] theorem kt_law14_few_j1 (l : List AV) : keepT i_law14_few_j1 l = keepT [i_,o_,o_,i_,o_,o_,o_,o_,o_,o_,o_,o_,o_,o_,o_,o_,o_,o_,o_,o_] l := rfl
@[go_sem] theorem kt_law14_few_k0 (l : List AV) : keepT i_law14_few_k0 l = keepT [i_,o_,o_,i_,o_,o_,o_,o_,o_,o_,o_,o_,o_,o_,o_,o_,o_,o_,o_,o_] l := rfl
@[go_sem] theorem kt_law14_few_j0 (l : List AV) : keepT i_law14_few_j0 l = keepT [o_,o_,o_,o_,o_,o_,o_,o_,o_,o_,o_,o_,o_,o_,o_,o_,o_,o_,o_,o_] l := rfl
@[go_sem] theorem kt_ref04_Light_r (l : List AV) : keepT i_ref04_Light_r l = keepT [o_,o_,o_,o_,o_,o_,i_,o_,o_,o_,o_,o_,o_,o_,o_,o_,o_,o_,o_,o_,o_,o_,o_,o_,o_,o_,o_,o_,o_,o_,o_,o_,o_,o_,o_,o_,o_,o_,o_,o_,o_,o_,o_,o_,o_,o_,o_,o_,o_,o_,o_,o_,o_,o_,o_,o_,o_,o_,o_,o_] l := rfl
@[go_sem] theorem kt_ref04_Light_j1 (l : List AV) : keepT i_ref04_Light_j1 l = keepT [o_,i_,i_,i_,o_,o_,o_,i_,o_,o_,o_,o_,o_,o_,o_,o_,o_,o_,o_,o_,o_,o_,o_,o_,o_,o_,o_,o_,o_,o_,o_,o_,o_,o_,o_,o_,o_,o_,o_,o_,o_,o_,o_,o_,o_,o_,o_,o_,o_,o_,o_,o_,o_,o_,o_,o_,o_,o_,o_,o_] l := rfl
@[go_sem] theorem kt_ref04_Light_k0 (l : List AV) : keepT i_ref04_Light_k0 l = keepT [o_,i_,i_,i_,o_,o_,o_,i_,o_,o_,o_,o_,o_,o_,o_,o_,o_,o_,o_,o_,o_,o_,o_,o_,o_,o_,o_,o_,o_,o_,o_,o_,o_,o_,o_,o_,o_,o_,o_,o_,o_,o_,o_,o_,o_,o_,o_,o_,o_,o_,o_,o_,o_,o_,o_,o_,o_,o_,o_,o_] l := rfl
@[go_sem] theorem kt_ref04_Light_j0 (l : List AV) : keepT i_ref04_Light_j0 l = keepT [o_,i_,o_,o_,o_,o_,o_,o_,o_,o_,o_,o_,o_,o_,o_,o_,o_,o_,o_,o_,o_,o_,o_,o_,o_,o_,o_,o_,o_,o_,o_,o_,o_,o_,o_,o_,o_,o_,o_,o_,o_,o_,o_,o_,o_,o_,o_,o_,o_,o_,o_,o_,o_,o_,o_,o_,o_,o_,o_,o_] l := rfl
@[go_sem] theorem kt_entry_Read_v1_r (l : List AV) : keepT i_entry_Read_v1_r l = keepT [o_,o_,i_,i_,o_,o_,o_,o_,o_,o_,o_,o_,o_,o_,o_,o_,o_,o_,o_,o_,o_,o_,o_,o_,o_,o_,o_,o_,o_,o_,o_,o_,o_,o_,o_,o_,o_,o_,o_,o_,o_,o_,o_,o_,o_,o_,o_,o_,o_,o_,o_,o_,o_,o_,o_,o_,o_,o_,o_,o_,o_,o_,o_,o_,o_,o_,o_,o_,o_,o_,o_,o_,o_,o_,o_,o_,o_,o_,o_,o_,o_,o_,o_,o_,o_,o_,o_,o_,o_,o_,o_,o_,o_,o_,o_,o_,o_] l := rfl
@[go_sem] theorem kt_coder_NewReader_v1_r (l : List AV) : keepT i_coder_NewReader_v1_r l = keepT [o_,o_,i_,o_,o_,o_,o_] l := rfl
@[go_sem] theorem kt_slices_Clone_sl_byte_byte_v1_r (l : List AV) : keepT i_slices_Clone_sl_byte_byte_v1_r l = keepT [o_,o_,i_,o_,o_,o_,o_,o_] l := rfl
@[go_sem] theorem kt_ref14_Write_r (l : List AV) : keepT i_ref14_Write_r l = keepT [o_,o_,i_,i_,o_,o_,o_,o_,o_,o_,o_,o_,o_,o_,o_,o_,o_,o_,o_,o_,o_,o_,o_,o_,o_,o_,o_,o_,o_,o_,o_,o_,o_,o_,o_,o_,o_,o_,o_,o_,o_,o_,o_,o_,o_,o_,o_,o_,o_,o_,o_,o_,o_,o_,o_,o_,o_,o_,o_,o_,o_,o_,o_,o_,o_,o_,o_,o_,o_,o_,o_,o_,o_,o_,o_,o_,o_,o_,o_,o_,o_,o_,o_,o_,o_,o_,o_,o_,o_,o_,o_,o_] l := rfl
@[go_sem] theorem kt_ref14_Write_j1 (l : List AV) : keepT i_ref14_Write_j1 l = keepT [o_,i_,o_,o_,i_,i_,i_,o_,o_,o_,o_,o_,o_,o_,o_,o_,o_,o_,o_,o_,o_,o_,o_,o_,o_,o_,o_,o_,o_,o_,o_,o_,o_,o_,o_,o_,o_,o_,o_,o_,o_,o_,o_,o_,o_,o_,o_,o_,o_,o_,o_,o_,o_,o_,o_,o_,o_,o_,o_,o_,o_,o_,o_,o_,o_,o_,o_,o_,o_,o_,o_,o_,o_,o_,o_,o_,o_,o_,o_,o_,o_,o_,o_,o_,o_,o_,o_,o_,o_,o_,o_,o_] l := rfl
@[go_sem] theorem kt_ref14_Write_k0 (l : List AV) : keepT i_ref14_Write_k0 l = keepT [o_,i_,o_,o_,i_,i_,i_,o_,o_,o_,o_,o_,o_,o_,o_,o_,o_,o_,o_,o_,o_,o_,o_,o_,o_,o_,o_,o_,o_,o_,o_,o_,o_,o_,o_,o_,o_,o_,o_,o_,o_,o_,o_,o_,o_,o_,o_,o_,o_,o_,o_,o_,o_,o_,o_,o_,o_,o_,o_,o_,o_,o_,o_,o_,o_,o_,o_,o_,o_,o_,o_,o_,o_,o_,o_,o_,o_,o_,o_,o_,o_,o_,o_,o_,o_,o_,o_,o_,o_,o_,o_,o_] l := rfl
@[go_sem] theorem kt_ref14_Write_j0 (l : List AV) : keepT i_ref14_Write_j0 l = keepT [o_,i_,o_,o_,i_,o_,o_,o_,o_,o_,o_,o_,o_,o_,o_,o_,o_,o_,o_,o_,o_,o_,o_,o_,o_,o_,o_,o_,o_,o_,o_,o_,o_,o_,o_,o_,o_,o_,o_,o_,o_,o_,o_,o_,o_,o_,o_,o_,o_,o_,o_,o_,o_,o_,o_,o_,o_,o_,o_,o_,o_,o_,o_,o_,o_,o_,o_,o_,o_,o_,o_,o_,o_,o_,o_,o_,o_,o_,o_,o_,o_,o_,o_,o_,o_,o_,o_,o_,o_,o_,o_,o_] l := rfl
@[go_sem] theorem kt_ref14_Writer_count_r (l : List AV) : keepT i_ref14_Writer_count_r l = keepT [o_,o_,o_,o_,o_,o_,o_,o_,o_,o_,o_,o_,o_,o_,o_,o_,o_,o_,o_,o_,o_,o_,o_,o_] l := rfl
@[go_sem] theorem kt_ref02_Number_r (l : List AV) : keepT i_ref02_Number_r l = keepT [o_,o_,i_,o_,o_,o_,o_,o_,o_,o_,o_,o_,o_,o_,o_,o_,o_,o_,o_,o_,o_,o_,o_,o_,o_,o_] l := rfl
@[go_sem] theorem kt_ref02_Number_j1 (l : List AV) : keepT i_ref02_Number_j1 l = keepT [i_,o_,o_,i_,o_,o_,o_,o_,o_,o_,o_,o_,o_,o_,o_,o_,o_,o_,o_,o_,o_,o_,o_,o_,o_,o_] l := rfl
@[go_sem] theorem kt_ref02_Number_k0 (l : List AV) : keepT i_ref02_Number_k0 l = keepT [i_,o_,o_,i_,o_,o_,o_,o_,o_,o_,o_,o_,o_,o_,o_,o_,o_,o_,o_,o_,o_,o_,o_,o_,o_,o_] l := rfl
@[go_sem] theorem kt_ref02_Number_j0 (l : List AV) : keepT i_ref02_Number_j0 l = keepT [o_,o_,o_,i_,o_,o_,o_,o_,o_,o_,o_,o_,o_,o_,o_,o_,o_,o_,o_,o_,o_,o_,o_,o_,o_,o_] l := rfl
@[go_sem] theorem kt_ref14_Writer_entries_r (l : List AV) : keepT i_ref14_Writer_entries_r l = keepT [o_,o_,o_,o_,o_,o_,o_,o_,o_,o_,o_,o_,o_,o_,o_,o_,o_,o_,o_,o_,o_,o_,o_,o_,o_,o_,o_,o_,o_,o_,o_,o_,o_,o_,o_,o_] l := rfl
@[go_sem] theorem kt_ref14_Writer_entries_j1 (l : List AV) : keepT i_ref14_Writer_entries_j1 l = keepT [i_,i_,o_,o_,i_,o_,o_,o_,o_,o_,o_,o_,o_,o_,o_,o_,o_,o_,o_,o_,o_,o_,o_,o_,o_,o_,o_,o_,o_,o_,o_,o_,o_,o_,o_,o_] l := rfl
@[go_sem] theorem kt_ref14_Writer_entries_k0 (l : List AV) : keepT i_ref14_Writer_entries_k0 l = keepT [i_,i_,o_,o_,i_,o_,o_,o_,o_,o_,o_,o_,o_,o_,o_,o_,o_,o_,o_,o_,o_,o_,o_,o_,o_,o_,o_,o_,o_,o_,o_,o_,o_,o_,o_,o_] l := rfl
@[go_sem] theorem kt_ref14_Writer_entries_j0 (l : List AV) : keepT i_ref14_Writer_entries_j0 l = keepT [o_,o_,o_,o_,o_,o_,o_,o_,o_,o_,o_,o_,o_,o_,o_,o_,o_,o_,o_,o_,o_,o_,o_,o_,o_,o_,o_,o_,o_,o_,o_,o_,o_,o_,o_,o_] l := rfl
@[go_sem] theorem kt_ref14_Writer_bytes_r (l : List AV) : keepT i_ref14_Writer_bytes_r l = keepT [o_,o_,o_,o_,o_,o_,o_,o_,o_,o_,o_,o_,o_,o_,o_,o_,o_,o_,o_,o_,o_,o_,o_] l := rfl
@[go_sem] theorem kt_ref02_Bytes_r (l : List AV) : keepT i_ref02_Bytes_r l = keepT [o_,o_,i_,o_,o_,o_,o_,o_,o_] l := rfl
@[go_sem] theorem kt_ref14_Writer_members_r (l : List AV) : keepT i_ref14_Writer_members_r l = keepT [o_,o_,o_,o_,o_,o_,o_,o_,o_,o_,o_,o_,o_,o_,o_,o_,o_,o_,o_,o_,o_] l := rfl
@[go_sem] theorem kt_ref14_Writer_members_j1 (l : List AV) : keepT i_ref14_Writer_members_j1 l = keepT [i_,i_,o_,o_,i_,o_,o_,o_,o_,o_,o_,o_,o_,o_,o_,o_,o_,o_,o_,o_,o_] l := rfl
@[go_sem] theorem kt_ref14_Writer_members_k0 (l : List AV) : keepT i_ref14_Writer_members_k0 l = keepT [i_,i_,o_,o_,i_,o_,o_,o_,o_,o_,o_,o_,o_,o_,o_,o_,o_,o_,o_,o_,o_] l := rfl
@[go_sem] theorem kt_ref14_Writer_members_j0 (l : List AV) : keepT i_ref14_Writer_members_j0 l = keepT [o_,o_,o_,o_,o_,o_,o_,o_,o_,o_,o_,o_,o_,o_,o_,o_,o_,o_,o_,o_,o_] l := rfl
@[go_sem] theorem kt_ref10_Write_r (l : List AV) : keepT i_ref10_Write_r l = keepT [o_,o_,i_,i_,o_,o_,o_,o_,o_,o_,o_,o_,o_,o_,o_,o_] l := rfl
@[go_sem] theorem kt_ref04_Check_r (l : List AV) : keepT i_ref04_Check_r l = keepT [o_,o_,i_,o_,o_,o_,o_,o_,o_,o_,o_,o_] l := rfl
@[go_sem] theorem kt_ref04_Deep_r (l : List AV) : keepT i_ref04_Deep_r l = keepT [o_,o_,o_,o_,i_,o_,o_,o_,o_,o_,o_,o_,o_,o_,o_,o_,o_,o_,o_,o_,o_,o_,o_,o_,o_,o_,o_,o_,o_,o_,o_,o_,o_,o_,o_,o_,o_,o_,o_,o_,o_,o_,o_] l := rfl
@[go_sem] theorem kt_ref04_Deep_j1 (l : List AV) : keepT i_ref04_Deep_j1 l = keepT [o_,i_,i_,o_,o_,o_,i_,o_,o_,o_,o_,o_,o_,o_,o_,o_,o_,o_,o_,o_,o_,o_,o_,o_,o_,o_,o_,o_,o_,o_,o_,o_,o_,o_,o_,o_,o_,o_,o_,o_,o_,o_,o_] l := rfl
@[go_sem] theorem kt_ref04_Deep_k0 (l : List AV) : keepT i_ref04_Deep_k0 l = keepT [o_,i_,i_,o_,o_,o_,i_,o_,o_,o_,o_,o_,o_,o_,o_,o_,o_,o_,o_,o_,o_,o_,o_,o_,o_,o_,o_,o_,o_,o_,o_,o_,o_,o_,o_,o_,o_,o_,o_,o_,o_,o_,o_] l := rfl
@[go_sem] theorem kt_ref04_Deep_j0 (l : List AV) : keepT i_ref04_Deep_j0 l = keepT [o_,o_,o_,o_,o_,o_,o_,o_,o_,o_,o_,o_,o_,o_,o_,o_,o_,o_,o_,o_,o_,o_,o_,o_,o_,o_,o_,o_,o_,o_,o_,o_,o_,o_,o_,o_,o_,o_,o_,o_,o_,o_,o_] l := rfl
@[go_sem] theorem kt_ref04_Formed_r (l : List AV) : keepT i_ref04_Formed_r l = keepT [o_,o_,i_,o_,o_,o_,o_,o_,o_,o_,o_,o_,o_,o_,o_,o_,o_,o_,o_,o_,o_,o_,o_,o_,o_,o_,o_,o_,o_,o_,o_,o_,o_,o_,o_,o_,o_,o_,o_,o_,o_,o_,o_,o_,o_,o_,o_,o_,o_,o_,o_,o_,o_,o_,o_,o_,o_,o_,o_,o_,o_,o_,o_,o_,o_,o_,o_,o_,o_,o_,o_,o_,o_,o_,o_,o_,o_,o_,o_,o_,o_,o_,o_,o_,o_,o_,o_,o_,o_,o_,o_,o_,o_,o_] l := rfl
@[go_sem] theorem kt_ref04_Formed_j0 (l : List AV) : keepT i_ref04_Formed_j0 l = keepT [o_,i_,o_,o_,o_,o_,i_,i_,o_,o_,o_,o_,o_,o_,o_,o_,o_,o_,o_,o_,o_,o_,o_,o_,o_,o_,o_,o_,o_,o_,o_,o_,o_,o_,o_,o_,o_,o_,o_,o_,o_,o_,o_,o_,o_,o_,o_,o_,o_,o_,o_,o_,o_,o_,o_,o_,o_,o_,o_,o_,o_,o_,o_,o_,o_,o_,o_,o_,o_,o_,o_,o_,o_,o_,o_,o_,o_,o_,o_,o_,o_,o_,o_,o_,o_,o_,o_,o_,o_,o_,o_,o_,o_,o_] l := rfl
@[go_sem] theorem kt_ref04_Formed_j2 (l : List AV) : keepT i_ref04_Formed_j2 l = keepT [o_,i_,o_,o_,o_,o_,i_,i_,i_,o_,o_,o_,o_,o_,o_,o_,o_,o_,o_,o_,o_,o_,o_,o_,o_,o_,o_,o_,o_,o_,o_,o_,o_,o_,o_,o_,o_,o_,o_,o_,o_,o_,o_,o_,o_,o_,o_,o_,o_,o_,o_,o_,o_,o_,o_,o_,o_,o_,o_,o_,o_,o_,o_,o_,o_,o_,o_,o_,o_,o_,o_,o_,o_,o_,o_,o_,o_,o_,o_,o_,o_,o_,o_,o_,o_,o_,o_,o_,o_,o_,o_,o_,o_,o_] l := rfl
@[go_sem] theorem kt_ref04_Formed_k0 (l : List AV) : keepT i_ref04_Formed_k0 l = keepT [o_,i_,o_,o_,o_,o_,i_,i_,i_,o_,o_,o_,o_,o_,o_,o_,o_,o_,o_,o_,o_,o_,o_,o_,o_,o_,o_,o_,o_,o_,o_,o_,o_,o_,o_,o_,o_,o_,o_,o_,o_,o_,o_,o_,o_,o_,o_,o_,o_,o_,o_,o_,o_,o_,o_,o_,o_,o_,o_,o_,o_,o_,o_,o_,o_,o_,o_,o_,o_,o_,o_,o_,o_,o_,o_,o_,o_,o_,o_,o_,o_,o_,o_,o_,o_,o_,o_,o_,o_,o_,o_,o_,o_,o_] l := rfl
@[go_sem] theorem kt_ref04_Formed_j1 (l : List AV) : keepT i_ref04_Formed_j1 l = keepT [o_,o_,o_,o_,o_,o_,o_,i_,o_,o_,o_,o_,o_,o_,o_,o_,o_,o_,o_,o_,o_,o_,o_,o_,o_,o_,o_,o_,o_,o_,o_,o_,o_,o_,o_,o_,o_,o_,o_,o_,o_,o_,o_,o_,o_,o_,o_,o_,o_,o_,o_,o_,o_,o_,o_,o_,o_,o_,o_,o_,o_,o_,o_,o_,o_,o_,o_,o_,o_,o_,o_,o_,o_,o_,o_,o_,o_,o_,o_,o_,o_,o_,o_,o_,o_,o_,o_,o_,o_,o_,o_,o_,o_,o_] l := rfl
@[go_sem] theorem kt_ref10_long_r (l : List AV) : keepT i_ref10_long_r l = keepT [o_,o_,i_,o_,o_,o_,o_,o_,o_,o_,o_,o_,o_,o_,o_,o_,o_,o_,o_,o_,o_,o_,o_] l := rfl
@[go_sem] theorem kt_ref10_long_j1 (l : List AV) : keepT i_ref10_long_j1 l = keepT [o_,i_,o_,i_,o_,o_,o_,o_,o_,o_,o_,o_,o_,o_,o_,o_,o_,o_,o_,o_,o_,o_,o_] l := rfl
@[go_sem] theorem kt_ref10_long_k0 (l : List AV) : keepT i_ref10_long_k0 l = keepT [o_,i_,o_,i_,o_,o_,o_,o_,o_,o_,o_,o_,o_,o_,o_,o_,o_,o_,o_,o_,o_,o_,o_] l := rfl
@[go_sem] theorem kt_ref10_long_j0 (l : List AV) : keepT i_ref10_long_j0 l = keepT [o_,o_,o_,o_,o_,o_,o_,o_,o_,o_,o_,o_,o_,o_,o_,o_,o_,o_,o_,o_,o_,o_,o_] l := rfl
@[go_sem] theorem kt_ref10_bytes_r (l : List AV) : keepT i_ref10_bytes_r l = keepT [o_,o_,i_,o_,o_,o_,o_,o_,o_,o_,o_,o_,o_,o_,o_,o_,o_,o_,o_,o_,o_,o_,o_,o_,o_,o_,o_,o_,o_,o_,o_,o_,o_,o_,o_,o_,o_,o_,o_,o_,o_,o_,o_,o_,o_,o_,o_,o_,o_,o_,o_,o_,o_,o_] l := rfl
@[go_sem] theorem kt_ref10_bytes_j1 (l : List AV) : keepT i_ref10_bytes_j1 l = keepT [o_,i_,o_,i_,i_,o_,o_,o_,o_,o_,o_,o_,o_,o_,o_,o_,o_,o_,o_,o_,o_,o_,o_,o_,o_,o_,o_,o_,o_,o_,o_,o_,o_,o_,o_,o_,o_,o_,o_,o_,o_,o_,o_,o_,o_,o_,o_,o_,o_,o_,o_,o_,o_,o_] l := rfl
@[go_sem] theorem kt_ref10_bytes_k0 (l : List AV) : keepT i_ref10_bytes_k0 l = keepT [o_,i_,o_,i_,i_,o_,o_,o_,o_,o_,o_,o_,o_,o_,o_,o_,o_,o_,o_,o_,o_,o_,o_,o_,o_,o_,o_,o_,o_,o_,o_,o_,o_,o_,o_,o_,o_,o_,o_,o_,o_,o_,o_,o_,o_,o_,o_,o_,o_,o_,o_,o_,o_,o_] l := rfl
@[go_sem] theorem kt_ref10_bytes_j0 (l : List AV) : keepT i_ref10_bytes_j0 l = keepT [o_,o_,o_,i_,o_,o_,o_,o_,o_,o_,o_,o_,o_,o_,o_,o_,o_,o_,o_,o_,o_,o_,o_,o_,o_,o_,o_,o_,o_,o_,o_,o_,o_,o_,o_,o_,o_,o_,o_,o_,o_,o_,o_,o_,o_,o_,o_,o_,o_,o_,o_,o_,o_,o_] l := rfl
@[go_sem] theorem kt_ref14_Writer_end_r (l : List AV) : keepT i_ref14_Writer_end_r l = keepT [o_,o_,i_,i_,o_,o_,o_,o_,o_,o_,o_,o_,o_,o_,o_,o_,o_,o_] l := rfl
@[go_sem] theorem kt_entry_Write_r (l : List AV) : keepT i_entry_Write_r l = keepT [o_,o_,i_,i_,o_,o_,o_,o_,o_,o_,o_,o_,o_,o_,o_,o_,o_,o_,o_,o_,o_,o_,o_,o_,o_,o_,o_,o_,o_,o_,o_,o_,o_,o_,o_,o_,o_,o_,o_,o_,o_,o_,o_,o_,o_,o_,o_,o_,o_,o_,o_,o_,o_,o_,o_,o_,o_,o_,o_,o_,o_,o_,o_,o_,o_,o_,o_,o_,o_,o_,o_,o_,o_,o_,o_,o_,o_,o_,o_,o_,o_,o_] l := rfl
@[go_sem] theorem kt_code_Write_r (l : List AV) : keepT i_code_Write_r l = keepT [o_,o_,i_,i_,o_,o_,o_,o_,o_,o_,o_,o_,o_,o_,o_] l := rfl
@[go_sem] theorem kt_tree_Check_r (l : List AV) : keepT i_tree_Check_r l = keepT [o_,o_,i_,o_,o_,o_,o_,o_,o_,o_,o_,o_] l := rfl
@[go_sem] theorem kt_tree_Check_j0 (l : List AV) : keepT i_tree_Check_j0 l = keepT [o_,o_,o_,o_,o_,o_,o_,o_,o_,o_,o_,o_] l := rfl
@[go_sem] theorem kt_tree_deep_r (l : List AV) : keepT i_tree_deep_r l = keepT [o_,o_,o_,o_,i_,o_,o_,o_,o_,o_,o_,o_,o_,o_,o_,o_,o_,o_,o_,o_,o_,o_,o_,o_,o_,o_,o_,o_,o_] l := rfl
@[go_sem] theorem kt_tree_deep_1_r (l : List AV) : keepT i_tree_deep_1_r l = keepT [o_,o_,o_,i_,o_,o_,o_,o_] l := rfl
@[go_sem] theorem kt_slices_ContainsFunc_sl_api_Tree_api_Tree_r (l : List AV) : keepT i_slices_ContainsFunc_sl_api_Tree_api_Tree_r l = keepT [o_,o_,o_,o_,i_,o_,o_,o_,o_] l := rfl
@[go_sem] theorem kt_slices_IndexFunc_sl_api_Tree_api_Tree_r (l : List AV) : keepT i_slices_IndexFunc_sl_api_Tree_api_Tree_r l = keepT [o_,o_,o_,o_,i_,o_,o_,o_,o_,o_,o_,o_,o_,o_,o_,o_,o_,o_,o_] l := rfl
@[go_sem] theorem kt_slices_IndexFunc_sl_api_Tree_api_Tree_j1 (l : List AV) : keepT i_slices_IndexFunc_sl_api_Tree_api_Tree_j1 l = keepT [i_,i_,o_,o_,o_,o_,o_,i_,i_,o_,o_,o_,o_,o_,o_,o_,o_,o_,o_] l := rfl
@[go_sem] theorem kt_slices_IndexFunc_sl_api_Tree_api_Tree_k0 (l : List AV) : keepT i_slices_IndexFunc_sl_api_Tree_api_Tree_k0 l = keepT [i_,i_,o_,o_,o_,o_,o_,i_,i_,o_,o_,o_,o_,o_,o_,o_,o_,o_,o_] l := rfl
@[go_sem] theorem kt_slices_IndexFunc_sl_api_Tree_api_Tree_j0 (l : List AV) : keepT i_slices_IndexFunc_sl_api_Tree_api_Tree_j0 l = keepT [o_,o_,o_,o_,o_,o_,o_,o_,o_,o_,o_,o_,o_,o_,o_,o_,o_,o_,o_] l := rfl
@[go_sem] theorem kt_tree_formed_r (l : List AV) : keepT i_tree_formed_r l = keepT [o_,o_,i_,o_,o_,o_,o_,o_,o_,o_,o_,o_,o_,o_,o_,o_,o_,o_,o_,o_,o_,o_,o_,o_,o_,o_,o_,o_,o_,o_,o_,o_,o_,o_,o_,o_,o_,o_,o_,o_,o_,o_,o_,o_,o_,o_,o_,o_,o_,o_,o_,o_,o_,o_,o_,o_,o_,o_,o_,o_,o_,o_,o_,o_,o_,o_,o_,o_,o_,o_,o_,o_,o_,o_,o_,o_,o_,o_,o_,o_,o_,o_,o_,o_,o_,o_,o_] l := rfl
@[go_sem] theorem kt_tree_formed_j0 (l : List AV) : keepT i_tree_formed_j0 l = keepT [o_,i_,o_,i_,o_,o_,o_,o_,o_,o_,o_,o_,o_,o_,o_,o_,o_,o_,o_,o_,o_,o_,o_,o_,o_,o_,o_,o_,o_,o_,o_,o_,o_,o_,o_,o_,o_,o_,o_,o_,o_,o_,o_,o_,o_,o_,o_,o_,o_,o_,o_,o_,o_,o_,o_,o_,o_,o_,o_,o_,o_,o_,o_,o_,o_,o_,o_,o_,o_,o_,o_,o_,o_,o_,o_,o_,o_,o_,o_,o_,o_,o_,o_,o_,o_,o_,o_] l := rfl
@[go_sem] theorem kt_tree_formed_1_r (l : List AV) : keepT i_tree_formed_1_r l = keepT [o_,o_,i_,o_,o_,o_] l := rfl
@[go_sem] theorem kt_code_long_r (l : List AV) : keepT i_code_long_r l = keepT [o_,o_,i_,o_,o_,o_,o_,o_,o_,o_,o_,o_,o_,o_,o_,o_,o_,o_,o_] l := rfl
@[go_sem] theorem kt_code_long_j1 (l : List AV) : keepT i_code_long_j1 l = keepT [o_,o_,o_,o_,o_,o_,o_,o_,o_,o_,i_,i_,i_,o_,o_,o_,o_,o_,o_] l := rfl
@[go_sem] theorem kt_code_long_k0 (l : List AV) : keepT i_code_long_k0 l = keepT [o_,o_,o_,o_,o_,o_,o_,o_,o_,o_,i_,i_,i_,o_,o_,o_,o_,o_,o_] l := rfl
@[go_sem] theorem kt_code_long_j0 (l : List AV) : keepT i_code_long_j0 l = keepT [o_,o_,o_,o_,o_,o_,o_,o_,o_,o_,o_,o_,o_,o_,o_,o_,o_,o_,o_] l := rfl
@[go_sem] theorem kt_code_write_r (l : List AV) : keepT i_code_write_r l = keepT [o_,o_,o_,o_,i_,o_,o_,o_,o_,o_,o_,o_,o_,o_,o_,o_,o_,o_,o_,o_,o_,o_,o_,o_,o_,o_,o_,o_,o_,o_,o_,o_,o_,o_,o_,o_,o_,o_,o_,o_,o_,o_,o_,o_,o_,o_,o_,o_,o_,o_,o_,o_,o_,o_,o_,o_] l := rfl
@[go_sem] theorem kt_code_write_j0 (l : List AV) : keepT i_code_write_j0 l = keepT [i_,o_,o_,i_,o_,o_,o_,o_,o_,o_,o_,o_,o_,o_,o_,o_,o_,o_,o_,o_,o_,o_,o_,o_,o_,o_,o_,o_,o_,o_,o_,o_,o_,o_,o_,o_,o_,o_,o_,o_,o_,o_,o_,o_,o_,o_,o_,o_,o_,o_,o_,o_,o_,o_,o_,o_] l := rfl
@[go_sem] theorem kt_code_write_j2 (l : List AV) : keepT i_code_write_j2 l = keepT [i_,o_,o_,o_,o_,o_,o_,o_,o_,o_,o_,o_,o_,o_,o_,o_,o_,o_,o_,o_,o_,o_,o_,o_,o_,o_,o_,o_,o_,o_,o_,o_,o_,o_,o_,o_,o_,o_,o_,o_,o_,o_,o_,o_,o_,i_,i_,i_,o_,o_,o_,o_,o_,o_,o_,o_] l := rfl
@[go_sem] theorem kt_code_write_k0 (l : List AV) : keepT i_code_write_k0 l = keepT [i_,o_,o_,o_,o_,o_,o_,o_,o_,o_,o_,o_,o_,o_,o_,o_,o_,o_,o_,o_,o_,o_,o_,o_,o_,o_,o_,o_,o_,o_,o_,o_,o_,o_,o_,o_,o_,o_,o_,o_,o_,o_,o_,o_,o_,i_,i_,i_,o_,o_,o_,o_,o_,o_,o_,o_] l := rfl
@[go_sem] theorem kt_code_write_j1 (l : List AV) : keepT i_code_write_j1 l = keepT [i_,o_,o_,o_,o_,o_,o_,o_,o_,o_,o_,o_,o_,o_,o_,o_,o_,o_,o_,o_,o_,o_,o_,o_,o_,o_,o_,o_,o_,o_,o_,o_,o_,o_,o_,o_,o_,o_,o_,o_,o_,o_,o_,o_,o_,o_,o_,o_,o_,o_,o_,o_,o_,o_,o_,o_] l := rfl
@[go_sem] theorem kt_law00_Code_r (l : List AV) : keepT i_law00_Code_r l = keepT [o_,o_,i_,o_,o_,o_,o_,o_,o_,o_,o_,o_,o_,o_,o_] l := rfl
@[go_sem] theorem kt_law00_Code_j1 (l : List AV) : keepT i_law00_Code_j1 l = keepT [i_,o_,o_,i_,o_,o_,o_,o_,o_,o_,o_,o_,o_,o_,o_] l := rfl
@[go_sem] theorem kt_law00_Code_k0 (l : List AV) : keepT i_law00_Code_k0 l = keepT [i_,o_,o_,i_,o_,o_,o_,o_,o_,o_,o_,o_,o_,o_,o_] l := rfl
@[go_sem] theorem kt_law00_Code_j0 (l : List AV) : keepT i_law00_Code_j0 l = keepT [o_,o_,o_,o_,o_,o_,o_,o_,o_,o_,o_,o_,o_,o_,o_] l := rfl
noncomputable def L_law14_EntryStays_0 (st : St) : Option (Ex × St) := lp tab G0 5 i_law14_EntryStays_k0 i_law14_EntryStays_b0 st
theorem L_law14_EntryStays_0_eq (st : St) : L_law14_EntryStays_0 st = againL L_law14_EntryStays_0 5 i_law14_EntryStays_k0 (app tab G0 5 [] (ex tab G0 5 i_law14_EntryStays_b0 st)) := lp_eq tab G0 5 i_law14_EntryStays_k0 i_law14_EntryStays_b0 st
@[go_sem] theorem L_law14_EntryStays_0_in (K : List Fr) (st : St) : app tab G0 5 K (ex tab G0 5 (.loop i_law14_EntryStays_k0 i_law14_EntryStays_b0) st) = app tab G0 5 K (L_law14_EntryStays_0 (clean 5 i_law14_EntryStays_k0 st)) := rfl
noncomputable def L_law14_EntryStays_1 (st : St) : Option (Ex × St) := lp tab G0 5 i_law14_EntryStays_k1 i_law14_EntryStays_b1 st
theorem L_law14_EntryStays_1_eq (st : St) : L_law14_EntryStays_1 st = againL L_law14_EntryStays_1 5 i_law14_EntryStays_k1 (app tab G0 5 [] (ex tab G0 5 i_law14_EntryStays_b1 st)) := lp_eq tab G0 5 i_law14_EntryStays_k1 i_law14_EntryStays_b1 st
@[go_sem] theorem L_law14_EntryStays_1_in (K : List Fr) (st : St) : app tab G0 5 K (ex tab G0 5 (.loop i_law14_EntryStays_k1 i_law14_EntryStays_b1) st) = app tab G0 5 K (L_law14_EntryStays_1 (clean 5 i_law14_EntryStays_k1 st)) := rfl
noncomputable def L_entry_writer_counts_0 (st : St) : Option (Ex × St) := lp tab G0 2 i_entry_writer_counts_k0 i_entry_writer_counts_b0 st
theorem L_entry_writer_counts_0_eq (st : St) : L_entry_writer_counts_0 st = againL L_entry_writer_counts_0 2 i_entry_writer_counts_k0 (app tab G0 2 [] (ex tab G0 2 i_entry_writer_counts_b0 st)) := lp_eq tab G0 2 i_entry_writer_counts_k0 i_entry_writer_counts_b0 st
@[go_sem] theorem L_entry_writer_counts_0_in (K : List Fr) (st : St) : app tab G0 2 K (ex tab G0 2 (.loop i_entry_writer_counts_k0 i_entry_writer_counts_b0) st) = app tab G0 2 K (L_entry_writer_counts_0 (clean 2 i_entry_writer_counts_k0 st)) := rfl
noncomputable def L_coder_Number_0 (st : St) : Option (Ex × St) := lp tab G0 1 i_coder_Number_k0 i_coder_Number_b0 st
theorem L_coder_Number_0_eq (st : St) : L_coder_Number_0 st = againL L_coder_Number_0 1 i_coder_Number_k0 (app tab G0 1 [] (ex tab G0 1 i_coder_Number_b0 st)) := lp_eq tab G0 1 i_coder_Number_k0 i_coder_Number_b0 st
@[go_sem] theorem L_coder_Number_0_in (K : List Fr) (st : St) : app tab G0 1 K (ex tab G0 1 (.loop i_coder_Number_k0 i_coder_Number_b0) st) = app tab G0 1 K (L_coder_Number_0 (clean 1 i_coder_Number_k0 st)) := rfl
noncomputable def L_coder_Number_1 (st : St) : Option (Ex × St) := lp tab G0 1 i_coder_Number_k1 i_coder_Number_b1 st
theorem L_coder_Number_1_eq (st : St) : L_coder_Number_1 st = againL L_coder_Number_1 1 i_coder_Number_k1 (app tab G0 1 [] (ex tab G0 1 i_coder_Number_b1 st)) := lp_eq tab G0 1 i_coder_Number_k1 i_coder_Number_b1 st
@[go_sem] theorem L_coder_Number_1_in (K : List Fr) (st : St) : app tab G0 1 K (ex tab G0 1 (.loop i_coder_Number_k1 i_coder_Number_b1) st) = app tab G0 1 K (L_coder_Number_1 (clean 1 i_coder_Number_k1 st)) := rfl
noncomputable def L_entry_writer_entries_0 (st : St) : Option (Ex × St) := lp tab G0 4 i_entry_writer_entries_k0 i_entry_writer_entries_b0 st
theorem L_entry_writer_entries_0_eq (st : St) : L_entry_writer_entries_0 st = againL L_entry_writer_entries_0 4 i_entry_writer_entries_k0 (app tab G0 4 [] (ex tab G0 4 i_entry_writer_entries_b0 st)) := lp_eq tab G0 4 i_entry_writer_entries_k0 i_entry_writer_entries_b0 st
@[go_sem] theorem L_entry_writer_entries_0_in (K : List Fr) (st : St) : app tab G0 4 K (ex tab G0 4 (.loop i_entry_writer_entries_k0 i_entry_writer_entries_b0) st) = app tab G0 4 K (L_entry_writer_entries_0 (clean 4 i_entry_writer_entries_k0 st)) := rfl
noncomputable def L_coder_Reader_Number_0 (st : St) : Option (Ex × St) := lp tab G0 0 i_coder_Reader_Number_k0 i_coder_Reader_Number_b0 st
theorem L_coder_Reader_Number_0_eq (st : St) : L_coder_Reader_Number_0 st = againL L_coder_Reader_Number_0 0 i_coder_Reader_Number_k0 (app tab G0 0 [] (ex tab G0 0 i_coder_Reader_Number_b0 st)) := lp_eq tab G0 0 i_coder_Reader_Number_k0 i_coder_Reader_Number_b0 st
@[go_sem] theorem L_coder_Reader_Number_0_in (K : List Fr) (st : St) : app tab G0 0 K (ex tab G0 0 (.loop i_coder_Reader_Number_k0 i_coder_Reader_Number_b0) st) = app tab G0 0 K (L_coder_Reader_Number_0 (clean 0 i_coder_Reader_Number_k0 st)) := rfl
noncomputable def L_entry_reader_entries_0 (st : St) : Option (Ex × St) := lp tab G0 1 i_entry_reader_entries_k0 i_entry_reader_entries_b0 st
theorem L_entry_reader_entries_0_eq (st : St) : L_entry_reader_entries_0 st = againL L_entry_reader_entries_0 1 i_entry_reader_entries_k0 (app tab G0 1 [] (ex tab G0 1 i_entry_reader_entries_b0 st)) := lp_eq tab G0 1 i_entry_reader_entries_k0 i_entry_reader_entries_b0 st
@[go_sem] theorem L_entry_reader_entries_0_in (K : List Fr) (st : St) : app tab G0 1 K (ex tab G0 1 (.loop i_entry_reader_entries_k0 i_entry_reader_entries_b0) st) = app tab G0 1 K (L_entry_reader_entries_0 (clean 1 i_entry_reader_entries_k0 st)) := rfl
noncomputable def L_entry_reader_members_0 (st : St) : Option (Ex × St) := lp tab G0 1 i_entry_reader_members_k0 i_entry_reader_members_b0 st
theorem L_entry_reader_members_0_eq (st : St) : L_entry_reader_members_0 st = againL L_entry_reader_members_0 1 i_entry_reader_members_k0 (app tab G0 1 [] (ex tab G0 1 i_entry_reader_members_b0 st)) := lp_eq tab G0 1 i_entry_reader_members_k0 i_entry_reader_members_b0 st
@[go_sem] theorem L_entry_reader_members_0_in (K : List Fr) (st : St) : app tab G0 1 K (ex tab G0 1 (.loop i_entry_reader_members_k0 i_entry_reader_members_b0) st) = app tab G0 1 K (L_entry_reader_members_0 (clean 1 i_entry_reader_members_k0 st)) := rfl
noncomputable def L_law14_few_0 (st : St) : Option (Ex × St) := lp tab G0 0 i_law14_few_k0 i_law14_few_b0 st
theorem L_law14_few_0_eq (st : St) : L_law14_few_0 st = againL L_law14_few_0 0 i_law14_few_k0 (app tab G0 0 [] (ex tab G0 0 i_law14_few_b0 st)) := lp_eq tab G0 0 i_law14_few_k0 i_law14_few_b0 st
@[go_sem] theorem L_law14_few_0_in (K : List Fr) (st : St) : app tab G0 0 K (ex tab G0 0 (.loop i_law14_few_k0 i_law14_few_b0) st) = app tab G0 0 K (L_law14_few_0 (clean 0 i_law14_few_k0 st)) := rfl
noncomputable def L_ref04_Light_0 (st : St) : Option (Ex × St) := lp tab G0 1 i_ref04_Light_k0 i_ref04_Light_b0 st
theorem L_ref04_Light_0_eq (st : St) : L_ref04_Light_0 st = againL L_ref04_Light_0 1 i_ref04_Light_k0 (app tab G0 1 [] (ex tab G0 1 i_ref04_Light_b0 st)) := lp_eq tab G0 1 i_ref04_Light_k0 i_ref04_Light_b0 st
@[go_sem] theorem L_ref04_Light_0_in (K : List Fr) (st : St) : app tab G0 1 K (ex tab G0 1 (.loop i_ref04_Light_k0 i_ref04_Light_b0) st) = app tab G0 1 K (L_ref04_Light_0 (clean 1 i_ref04_Light_k0 st)) := rfl
noncomputable def L_ref14_Write_0 (st : St) : Option (Ex × St) := lp tab G0 10 i_ref14_Write_k0 i_ref14_Write_b0 st
theorem L_ref14_Write_0_eq (st : St) : L_ref14_Write_0 st = againL L_ref14_Write_0 10 i_ref14_Write_k0 (app tab G0 10 [] (ex tab G0 10 i_ref14_Write_b0 st)) := lp_eq tab G0 10 i_ref14_Write_k0 i_ref14_Write_b0 st
@[go_sem] theorem L_ref14_Write_0_in (K : List Fr) (st : St) : app tab G0 10 K (ex tab G0 10 (.loop i_ref14_Write_k0 i_ref14_Write_b0) st) = app tab G0 10 K (L_ref14_Write_0 (clean 10 i_ref14_Write_k0 st)) := rfl
noncomputable def L_ref02_Number_0 (st : St) : Option (Ex × St) := lp tab G0 2 i_ref02_Number_k0 i_ref02_Number_b0 st
theorem L_ref02_Number_0_eq (st : St) : L_ref02_Number_0 st = againL L_ref02_Number_0 2 i_ref02_Number_k0 (app tab G0 2 [] (ex tab G0 2 i_ref02_Number_b0 st)) := lp_eq tab G0 2 i_ref02_Number_k0 i_ref02_Number_b0 st
@[go_sem] theorem L_ref02_Number_0_in (K : List Fr) (st : St) : app tab G0 2 K (ex tab G0 2 (.loop i_ref02_Number_k0 i_ref02_Number_b0) st) = app tab G0 2 K (L_ref02_Number_0 (clean 2 i_ref02_Number_k0 st)) := rfl
noncomputable def L_ref14_Writer_entries_0 (st : St) : Option (Ex × St) := lp tab G0 4 i_ref14_Writer_entries_k0 i_ref14_Writer_entries_b0 st
theorem L_ref14_Writer_entries_0_eq (st : St) : L_ref14_Writer_entries_0 st = againL L_ref14_Writer_entries_0 4 i_ref14_Writer_entries_k0 (app tab G0 4 [] (ex tab G0 4 i_ref14_Writer_entries_b0 st)) := lp_eq tab G0 4 i_ref14_Writer_entries_k0 i_ref14_Writer_entries_b0 st
@[go_sem] theorem L_ref14_Writer_entries_0_in (K : List Fr) (st : St) : app tab G0 4 K (ex tab G0 4 (.loop i_ref14_Writer_entries_k0 i_ref14_Writer_entries_b0) st) = app tab G0 4 K (L_ref14_Writer_entries_0 (clean 4 i_ref14_Writer_entries_k0 st)) := rfl
noncomputable def L_ref14_Writer_members_0 (st : St) : Option (Ex × St) := lp tab G0 2 i_ref14_Writer_members_k0 i_ref14_Writer_members_b0 st
theorem L_ref14_Writer_members_0_eq (st : St) : L_ref14_Writer_members_0 st = againL L_ref14_Writer_members_0 2 i_ref14_Writer_members_k0 (app tab G0 2 [] (ex tab G0 2 i_ref14_Writer_members_b0 st)) := lp_eq tab G0 2 i_ref14_Writer_members_k0 i_ref14_Writer_members_b0 st
@[go_sem] theorem L_ref14_Writer_members_0_in (K : List Fr) (st : St) : app tab G0 2 K (ex tab G0 2 (.loop i_ref14_Writer_members_k0 i_ref14_Writer_members_b0) st) = app tab G0 2 K (L_ref14_Writer_members_0 (clean 2 i_ref14_Writer_members_k0 st)) := rfl
noncomputable def L_ref04_Deep_0 (st : St) : Option (Ex × St) := lp tab G0 1 i_ref04_Deep_k0 i_ref04_Deep_b0 st
theorem L_ref04_Deep_0_eq (st : St) : L_ref04_Deep_0 st = againL L_ref04_Deep_0 1 i_ref04_Deep_k0 (app tab G0 1 [] (ex tab G0 1 i_ref04_Deep_b0 st)) := lp_eq tab G0 1 i_ref04_Deep_k0 i_ref04_Deep_b0 st
@[go_sem] theorem L_ref04_Deep_0_in (K : List Fr) (st : St) : app tab G0 1 K (ex tab G0 1 (.loop i_ref04_Deep_k0 i_ref04_Deep_b0) st) = app tab G0 1 K (L_ref04_Deep_0 (clean 1 i_ref04_Deep_k0 st)) := rfl
noncomputable def L_ref04_Formed_0 (st : St) : Option (Ex × St) := lp tab G0 1 i_ref04_Formed_k0 i_ref04_Formed_b0 st
theorem L_ref04_Formed_0_eq (st : St) : L_ref04_Formed_0 st = againL L_ref04_Formed_0 1 i_ref04_Formed_k0 (app tab G0 1 [] (ex tab G0 1 i_ref04_Formed_b0 st)) := lp_eq tab G0 1 i_ref04_Formed_k0 i_ref04_Formed_b0 st
@[go_sem] theorem L_ref04_Formed_0_in (K : List Fr) (st : St) : app tab G0 1 K (ex tab G0 1 (.loop i_ref04_Formed_k0 i_ref04_Formed_b0) st) = app tab G0 1 K (L_ref04_Formed_0 (clean 1 i_ref04_Formed_k0 st)) := rfl
noncomputable def L_ref10_long_0 (st : St) : Option (Ex × St) := lp tab G0 1 i_ref10_long_k0 i_ref10_long_b0 st
theorem L_ref10_long_0_eq (st : St) : L_ref10_long_0 st = againL L_ref10_long_0 1 i_ref10_long_k0 (app tab G0 1 [] (ex tab G0 1 i_ref10_long_b0 st)) := lp_eq tab G0 1 i_ref10_long_k0 i_ref10_long_b0 st
@[go_sem] theorem L_ref10_long_0_in (K : List Fr) (st : St) : app tab G0 1 K (ex tab G0 1 (.loop i_ref10_long_k0 i_ref10_long_b0) st) = app tab G0 1 K (L_ref10_long_0 (clean 1 i_ref10_long_k0 st)) := rfl
noncomputable def L_ref10_bytes_0 (st : St) : Option (Ex × St) := lp tab G0 2 i_ref10_bytes_k0 i_ref10_bytes_b0 st
theorem L_ref10_bytes_0_eq (st : St) : L_ref10_bytes_0 st = againL L_ref10_bytes_0 2 i_ref10_bytes_k0 (app tab G0 2 [] (ex tab G0 2 i_ref10_bytes_b0 st)) := lp_eq tab G0 2 i_ref10_bytes_k0 i_ref10_bytes_b0 st
@[go_sem] theorem L_ref10_bytes_0_in (K : List Fr) (st : St) : app tab G0 2 K (ex tab G0 2 (.loop i_ref10_bytes_k0 i_ref10_bytes_b0) st) = app tab G0 2 K (L_ref10_bytes_0 (clean 2 i_ref10_bytes_k0 st)) := rfl
noncomputable def L_slices_IndexFunc_sl_api_Tree_api_Tree_0 (st : St) : Option (Ex × St) := lp tab G0 0 i_slices_IndexFunc_sl_api_Tree_api_Tree_k0 i_slices_IndexFunc_sl_api_Tree_api_Tree_b0 st
theorem L_slices_IndexFunc_sl_api_Tree_api_Tree_0_eq (st : St) : L_slices_IndexFunc_sl_api_Tree_api_Tree_0 st = againL L_slices_IndexFunc_sl_api_Tree_api_Tree_0 0 i_slices_IndexFunc_sl_api_Tree_api_Tree_k0 (app tab G0 0 [] (ex tab G0 0 i_slices_IndexFunc_sl_api_Tree_api_Tree_b0 st)) := lp_eq tab G0 0 i_slices_IndexFunc_sl_api_Tree_api_Tree_k0 i_slices_IndexFunc_sl_api_Tree_api_Tree_b0 st
@[go_sem] theorem L_slices_IndexFunc_sl_api_Tree_api_Tree_0_in (K : List Fr) (st : St) : app tab G0 0 K (ex tab G0 0 (.loop i_slices_IndexFunc_sl_api_Tree_api_Tree_k0 i_slices_IndexFunc_sl_api_Tree_api_Tree_b0) st) = app tab G0 0 K (L_slices_IndexFunc_sl_api_Tree_api_Tree_0 (clean 0 i_slices_IndexFunc_sl_api_Tree_api_Tree_k0 st)) := rfl
noncomputable def L_code_long_0 (st : St) : Option (Ex × St) := lp tab G0 2 i_code_long_k0 i_code_long_b0 st
theorem L_code_long_0_eq (st : St) : L_code_long_0 st = againL L_code_long_0 2 i_code_long_k0 (app tab G0 2 [] (ex tab G0 2 i_code_long_b0 st)) := lp_eq tab G0 2 i_code_long_k0 i_code_long_b0 st
@[go_sem] theorem L_code_long_0_in (K : List Fr) (st : St) : app tab G0 2 K (ex tab G0 2 (.loop i_code_long_k0 i_code_long_b0) st) = app tab G0 2 K (L_code_long_0 (clean 2 i_code_long_k0 st)) := rfl
noncomputable def L_code_write_0 (st : St) : Option (Ex × St) := lp tab G0 4 i_code_write_k0 i_code_write_b0 st
theorem L_code_write_0_eq (st : St) : L_code_write_0 st = againL L_code_write_0 4 i_code_write_k0 (app tab G0 4 [] (ex tab G0 4 i_code_write_b0 st)) := lp_eq tab G0 4 i_code_write_k0 i_code_write_b0 st
@[go_sem] theorem L_code_write_0_in (K : List Fr) (st : St) : app tab G0 4 K (ex tab G0 4 (.loop i_code_write_k0 i_code_write_b0) st) = app tab G0 4 K (L_code_write_0 (clean 4 i_code_write_k0 st)) := rfl
noncomputable def L_law00_Code_0 (st : St) : Option (Ex × St) := lp tab G0 0 i_law00_Code_k0 i_law00_Code_b0 st
theorem L_law00_Code_0_eq (st : St) : L_law00_Code_0 st = againL L_law00_Code_0 0 i_law00_Code_k0 (app tab G0 0 [] (ex tab G0 0 i_law00_Code_b0 st)) := lp_eq tab G0 0 i_law00_Code_k0 i_law00_Code_b0 st
@[go_sem] theorem L_law00_Code_0_in (K : List Fr) (st : St) : app tab G0 0 K (ex tab G0 0 (.loop i_law00_Code_k0 i_law00_Code_b0) st) = app tab G0 0 K (L_law00_Code_0 (clean 0 i_law00_Code_k0 st)) := rfl
end Go.Proofs.Ytkfaahjcncpmhaa
