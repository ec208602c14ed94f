/- The IR of the seat's functions, printed by a program of this session. -/
import Derived.Test.YtkfaahjcncpmhaaEvE
set_option linter.unusedVariables false
namespace Go.Proofs.Ytkfaahjcncpmhaa
open Go.Ev
abbrev o_ : Bool := false
abbrev i_ : Bool := true
abbrev u_ : AV := .undef

abbrev ty_int : Nat := 3
abbrev ty_uint8 : Nat := 5
abbrev ty_api_Code : Nat := 39
abbrev n_law17_ConfStays : Nat := 7
abbrev n_law17_up : Nat := 15
abbrev n_conf_Has : Nat := 16
abbrev n_conf_Most : Nat := 18
abbrev n_conf_Step : Nat := 20
abbrev n_ref17_Same : Nat := 22
abbrev n_conf_May : Nat := 27
abbrev n_slices_Contains_sl_int_int : Nat := 53
abbrev n_slices_ContainsFunc_sl_int_int : Nat := 54
abbrev n_conf_Step_1 : Nat := 55
abbrev n_slices_Index_sl_int_int : Nat := 91
abbrev n_slices_IndexFunc_sl_int_int : Nat := 92
abbrev n_conf_Bytes_v1 : Nat := 1000023
abbrev n_conf_Of_v1 : Nat := 1000024
def i_law17_ConfStays_r : List Bool := [o_,o_,o_,o_,i_,o_,o_,o_,o_,o_,o_,o_,o_,o_,o_,o_,o_,o_,o_,o_,o_,o_,o_,o_,o_,o_,o_,o_,o_,o_,o_,o_,o_,o_,o_,o_,o_,o_,o_,o_,o_,o_,o_,o_,o_,o_,o_,o_,o_,o_,o_,o_,o_,o_,o_,o_,o_,o_,o_,o_,o_,o_,o_,o_,o_,o_,o_,o_,o_,o_,o_,o_,o_,o_,o_,o_,o_,o_,o_,o_,o_,o_,o_,o_,o_,o_,o_,o_,o_,o_,o_,o_,o_,o_,o_,o_]
def i_law17_ConfStays_j1 : List Bool := [i_,i_,o_,o_,o_,i_,i_,i_,i_,o_,i_,o_,i_,i_,o_,o_,o_,o_,o_,o_,o_,o_,o_,o_,o_,o_,o_,o_,o_,o_,o_,o_,o_,o_,o_,o_,o_,o_,o_,o_,o_,o_,o_,o_,o_,o_,o_,o_,o_,o_,o_,o_,o_,o_,o_,o_,o_,o_,o_,o_,o_,o_,o_,o_,o_,o_,o_,o_,o_,o_,o_,o_,o_,o_,o_,o_,o_,o_,o_,o_,o_,o_,o_,o_,o_,o_,o_,o_,o_,o_,o_,o_,o_,o_,o_,o_]
def i_law17_ConfStays_k0 : List Bool := [i_,i_,o_,o_,o_,i_,i_,i_,i_,o_,i_,o_,i_,i_,o_,o_,o_,o_,o_,o_,o_,o_,o_,o_,o_,o_,o_,o_,o_,o_,o_,o_,o_,o_,o_,o_,o_,o_,o_,o_,o_,o_,o_,o_,o_,o_,o_,o_,o_,o_,o_,o_,o_,o_,o_,o_,o_,o_,o_,o_,o_,o_,o_,o_,o_,o_,o_,o_,o_,o_,o_,o_,o_,o_,o_,o_,o_,o_,o_,o_,o_,o_,o_,o_,o_,o_,o_,o_,o_,o_,o_,o_,o_,o_,o_,o_]
def i_law17_ConfStays_j0 : List Bool := [i_,i_,o_,o_,o_,i_,o_,i_,i_,o_,i_,o_,i_,o_,o_,o_,o_,o_,o_,o_,o_,o_,o_,o_,o_,o_,o_,o_,o_,o_,o_,o_,o_,o_,o_,o_,o_,o_,o_,o_,o_,o_,o_,o_,o_,o_,o_,o_,o_,o_,o_,o_,o_,o_,o_,o_,o_,o_,o_,o_,o_,o_,o_,o_,o_,o_,o_,o_,o_,o_,o_,o_,o_,o_,o_,o_,o_,o_,o_,o_,o_,o_,o_,o_,o_,o_,o_,o_,o_,o_,o_,o_,o_,o_,o_,o_]
def i_law17_ConfStays_j3 : List Bool := [i_,i_,o_,o_,o_,i_,o_,i_,i_,o_,i_,o_,i_,o_,i_,o_,o_,o_,o_,o_,o_,o_,o_,o_,o_,o_,o_,o_,o_,o_,o_,o_,o_,o_,o_,o_,o_,o_,o_,o_,o_,o_,o_,o_,o_,o_,o_,o_,o_,o_,o_,o_,o_,o_,o_,o_,o_,o_,o_,o_,o_,o_,o_,o_,o_,o_,o_,o_,o_,o_,o_,o_,o_,o_,o_,o_,o_,o_,o_,o_,o_,o_,o_,o_,o_,o_,o_,o_,o_,o_,o_,o_,o_,o_,o_,o_]
def i_law17_ConfStays_k1 : List Bool := [i_,i_,o_,o_,o_,i_,o_,i_,i_,o_,i_,o_,i_,o_,i_,o_,o_,o_,o_,o_,o_,o_,o_,o_,o_,o_,o_,o_,o_,o_,o_,o_,o_,o_,o_,o_,o_,o_,o_,o_,o_,o_,o_,o_,o_,o_,o_,o_,o_,o_,o_,o_,o_,o_,o_,o_,o_,o_,o_,o_,o_,o_,o_,o_,o_,o_,o_,o_,o_,o_,o_,o_,o_,o_,o_,o_,o_,o_,o_,o_,o_,o_,o_,o_,o_,o_,o_,o_,o_,o_,o_,o_,o_,o_,o_,o_]
def i_law17_ConfStays_j2 : List Bool := [i_,i_,o_,o_,o_,i_,o_,o_,i_,o_,i_,o_,i_,o_,o_,o_,o_,o_,o_,o_,o_,o_,o_,o_,o_,o_,o_,o_,o_,o_,o_,o_,o_,o_,o_,o_,o_,o_,o_,o_,o_,o_,o_,o_,o_,o_,o_,o_,o_,o_,o_,o_,o_,o_,o_,o_,o_,o_,o_,o_,o_,o_,o_,o_,o_,o_,o_,o_,o_,o_,o_,o_,o_,o_,o_,o_,o_,o_,o_,o_,o_,o_,o_,o_,o_,o_,o_,o_,o_,o_,o_,o_,o_,o_,o_,o_]
abbrev s_law17_ConfStays_R (t4 : AV) (h : Heap) : St := ⟨[u_,u_,u_,u_,t4, u_,u_,u_,u_,u_,u_,u_,u_,u_,u_,u_,u_,u_,u_,u_,u_,u_,u_,u_,u_,u_,u_,u_,u_,u_,u_,u_,u_,u_,u_,u_,u_,u_,u_,u_,u_,u_,u_,u_,u_,u_,u_,u_,u_,u_,u_,u_,u_,u_,u_,u_,u_,u_,u_,u_,u_,u_,u_,u_,u_,u_,u_,u_,u_,u_,u_,u_,u_,u_,u_,u_,u_,u_,u_,u_,u_,u_,u_,u_,u_,u_,u_,u_,u_,u_,u_,u_,u_,u_,u_,u_], h⟩
abbrev s_law17_ConfStays_K0 (t0 t1 t5 t6 t7 t8 t10 t12 t13 : AV) (h : Heap) : St := ⟨[t0, t1, u_,u_,u_,t5, t6, t7, t8, u_,t10, u_,t12, t13, u_,u_,u_,u_,u_,u_,u_,u_,u_,u_,u_,u_,u_,u_,u_,u_,u_,u_,u_,u_,u_,u_,u_,u_,u_,u_,u_,u_,u_,u_,u_,u_,u_,u_,u_,u_,u_,u_,u_,u_,u_,u_,u_,u_,u_,u_,u_,u_,u_,u_,u_,u_,u_,u_,u_,u_,u_,u_,u_,u_,u_,u_,u_,u_,u_,u_,u_,u_,u_,u_,u_,u_,u_,u_,u_,u_,u_,u_,u_,u_,u_,u_], h⟩
def i_law17_ConfStays_b0 : IR := (.seq (.seq (.reg [] [⟨(some 52), .mv (.t 13),none,[]⟩,⟨(some 53), .cn (.t 6),none,[]⟩,⟨(some 54), .len false (.t 53),none,[]⟩,⟨(some 55), .bin .plain .lss (.t 52) (.t 54),none,[]⟩]) (.cond (.t 55) .skip (.exit 0 i_law17_ConfStays_j0))) (.seq (.block 1 i_law17_ConfStays_j1 (.reg [] [⟨(some 58), .mv (.t 6),none,[]⟩,⟨(some 59), .mv (.t 13),none,[]⟩,⟨(some 60), .ia 1 (.t 58) (.t 59),none,[]⟩,⟨none, .store 1 (.t 60) (.k (.int .i64 0)),none,[]⟩])) (.reg [] [⟨(some 56), .mv (.t 13),none,[]⟩,⟨(some 57), .bin .plain .add (.t 56) (.k (.int .i64 1)),none,[]⟩,⟨(some 13), .mv (.t 57),none,[]⟩])))

abbrev s_law17_ConfStays_J0 (t0 t1 t5 t7 t8 t10 t12 : AV) (h : Heap) : St := ⟨[t0, t1, u_,u_,u_,t5, u_,t7, t8, u_,t10, u_,t12, u_,u_,u_,u_,u_,u_,u_,u_,u_,u_,u_,u_,u_,u_,u_,u_,u_,u_,u_,u_,u_,u_,u_,u_,u_,u_,u_,u_,u_,u_,u_,u_,u_,u_,u_,u_,u_,u_,u_,u_,u_,u_,u_,u_,u_,u_,u_,u_,u_,u_,u_,u_,u_,u_,u_,u_,u_,u_,u_,u_,u_,u_,u_,u_,u_,u_,u_,u_,u_,u_,u_,u_,u_,u_,u_,u_,u_,u_,u_,u_,u_,u_,u_], h⟩
abbrev s_law17_ConfStays_K1 (t0 t1 t5 t7 t8 t10 t12 t14 : AV) (h : Heap) : St := ⟨[t0, t1, u_,u_,u_,t5, u_,t7, t8, u_,t10, u_,t12, u_,t14, u_,u_,u_,u_,u_,u_,u_,u_,u_,u_,u_,u_,u_,u_,u_,u_,u_,u_,u_,u_,u_,u_,u_,u_,u_,u_,u_,u_,u_,u_,u_,u_,u_,u_,u_,u_,u_,u_,u_,u_,u_,u_,u_,u_,u_,u_,u_,u_,u_,u_,u_,u_,u_,u_,u_,u_,u_,u_,u_,u_,u_,u_,u_,u_,u_,u_,u_,u_,u_,u_,u_,u_,u_,u_,u_,u_,u_,u_,u_,u_,u_], h⟩
def i_law17_ConfStays_b1 : IR := (.seq (.seq (.reg [] [⟨(some 61), .mv (.t 14),none,[]⟩,⟨(some 62), .cn (.t 7),none,[]⟩,⟨(some 63), .len false (.t 62),none,[]⟩,⟨(some 64), .bin .plain .lss (.t 61) (.t 63),none,[]⟩]) (.cond (.t 64) .skip (.exit 2 i_law17_ConfStays_j2))) (.seq (.block 3 i_law17_ConfStays_j3 (.reg [] [⟨(some 67), .mv (.t 7),none,[]⟩,⟨(some 68), .mv (.t 14),none,[]⟩,⟨(some 69), .ia 1 (.t 67) (.t 68),none,[]⟩,⟨none, .store 1 (.t 69) (.k (.int .u8 0)),none,[]⟩])) (.reg [] [⟨(some 65), .mv (.t 14),none,[]⟩,⟨(some 66), .bin .plain .add (.t 65) (.k (.int .i64 1)),none,[]⟩,⟨(some 14), .mv (.t 66),none,[]⟩])))

abbrev s_law17_ConfStays_J2 (t0 t1 t5 t8 t10 t12 : AV) (h : Heap) : St := ⟨[t0, t1, u_,u_,u_,t5, u_,u_,t8, u_,t10, u_,t12, u_,u_,u_,u_,u_,u_,u_,u_,u_,u_,u_,u_,u_,u_,u_,u_,u_,u_,u_,u_,u_,u_,u_,u_,u_,u_,u_,u_,u_,u_,u_,u_,u_,u_,u_,u_,u_,u_,u_,u_,u_,u_,u_,u_,u_,u_,u_,u_,u_,u_,u_,u_,u_,u_,u_,u_,u_,u_,u_,u_,u_,u_,u_,u_,u_,u_,u_,u_,u_,u_,u_,u_,u_,u_,u_,u_,u_,u_,u_,u_,u_,u_,u_], h⟩
/-- heartwood/heartwoodlaw17.ConfStays -/
def i_law17_ConfStays : Ev.Fn := ⟨2, 96, 6, (.seq (.reg [] [⟨(some 4), .mv (.k (.bool false)),none,[]⟩]) (.seq (.reg [] [⟨(some 19), .qcall n_law17_up [] [],none,[]⟩,⟨(some 5), .mv (.t 19),none,[]⟩]) (.seq (.reg [] [⟨(some 20), .lit 0 ty_int 1 0 [(.int .i64 0)] [],none,[]⟩,⟨(some 21), .cn (.t 0),none,[]⟩,⟨(some 22), .app 0 ty_int 1 8 (.t 20) (.t 21),none,[]⟩,⟨(some 6), .mv (.t 22),none,[]⟩]) (.seq (.reg [] [⟨(some 23), .lit 1 ty_uint8 1 0 [(.int .u8 0)] [],none,[]⟩,⟨(some 24), .cn (.t 1),none,[]⟩,⟨(some 25), .app 1 ty_uint8 1 1 (.t 23) (.t 24),none,[]⟩,⟨(some 7), .mv (.t 25),none,[]⟩]) (.seq (.reg [] [⟨(some 27), .cn (.t 6),none,[]⟩,⟨(some 28), .bcall n_conf_Bytes_v1 [(.t 27)] [2],none,[]⟩,⟨(some 26), .mv (.t 28),none,[]⟩,⟨(some 29), .ext 0 (.t 26),none,[]⟩,⟨(some 30), .ext 1 (.t 26),none,[]⟩,⟨(some 8), .cn (.t 29), none, [29]⟩,⟨(some 9), .mv (.t 30),none,[]⟩]) (.seq (.reg [] [⟨(some 32), .cn (.t 7),none,[]⟩,⟨(some 33), .bcall n_conf_Of_v1 [(.t 32)] [3],none,[]⟩,⟨(some 31), .mv (.t 33),none,[]⟩,⟨(some 34), .ext 0 (.t 31),none,[]⟩,⟨(some 35), .ext 1 (.t 31),none,[]⟩,⟨(some 10), .cn (.t 34), none, [34]⟩,⟨(some 11), .mv (.t 35),none,[]⟩]) (.seq (.reg [] [⟨(some 36), .cn (.t 6),none,[]⟩,⟨(some 37), .cn (.t 6),none,[]⟩,⟨(some 38), .bcall n_conf_Most [(.t 36), (.t 37)] [],none,[]⟩]) (.seq (.reg [] [⟨(some 39), .cn (.t 6),none,[]⟩,⟨(some 40), .cn (.t 6),none,[]⟩,⟨(some 41), .bcall n_conf_Step [(.t 39), (.t 40)] [],none,[]⟩]) (.seq (.reg [] [⟨(some 42), .cn (.t 6),none,[]⟩,⟨(some 43), .cn (.t 0),none,[]⟩,⟨(some 44), .bcall n_ref17_Same [(.t 42), (.t 43)] [],none,[]⟩,⟨(some 45), .mv (.t 44),none,[]⟩,⟨(some 46), .cn (.t 7), (some (45, true)), []⟩,⟨(some 47), .b2s (.t 46), (some (45, true)), []⟩,⟨(some 48), .cn (.t 1), (some (45, true)), []⟩,⟨(some 49), .b2s (.t 48), (some (45, true)), []⟩,⟨(some 50), .bin .plain .eql (.t 47) (.t 49), (some (45, true)), []⟩,⟨(some 51), .pick (.t 45) (.t 50) (.k (.bool false)),none,[]⟩,⟨(some 12), .mv (.t 51),none,[]⟩]) (.seq (.seq (.reg [] [⟨(some 13), .mv (.k (.int .i64 0)),none,[]⟩]) (.block 0 i_law17_ConfStays_j0 (.loop i_law17_ConfStays_k0 i_law17_ConfStays_b0))) (.seq (.seq (.reg [] [⟨(some 14), .mv (.k (.int .i64 0)),none,[]⟩]) (.block 2 i_law17_ConfStays_j2 (.loop i_law17_ConfStays_k1 i_law17_ConfStays_b1))) (.seq (.reg [] [⟨(some 71), .cn (.t 0),none,[]⟩,⟨(some 72), .bcall n_conf_Bytes_v1 [(.t 71)] [4],none,[]⟩,⟨(some 70), .mv (.t 72),none,[]⟩,⟨(some 73), .ext 0 (.t 70),none,[]⟩,⟨(some 74), .ext 1 (.t 70),none,[]⟩,⟨(some 15), .cn (.t 73), none, [73]⟩,⟨(some 16), .mv (.t 74),none,[]⟩]) (.seq (.reg [] [⟨(some 76), .cn (.t 1),none,[]⟩,⟨(some 77), .bcall n_conf_Of_v1 [(.t 76)] [5],none,[]⟩,⟨(some 75), .mv (.t 77),none,[]⟩,⟨(some 78), .ext 0 (.t 75),none,[]⟩,⟨(some 79), .ext 1 (.t 75),none,[]⟩,⟨(some 17), .cn (.t 78), none, [78]⟩,⟨(some 18), .mv (.t 79),none,[]⟩]) (.seq (.reg [] [⟨(some 80), .mv (.t 5),none,[]⟩,⟨(some 81), .mv (.t 80),none,[]⟩,⟨(some 82), .mv (.t 12), (some (81, true)), []⟩,⟨(some 83), .pick (.t 81) (.t 82) (.k (.bool false)),none,[]⟩,⟨(some 84), .mv (.t 83),none,[]⟩,⟨(some 85), .cn (.t 15), (some (84, true)), []⟩,⟨(some 86), .b2s (.t 85), (some (84, true)), []⟩,⟨(some 87), .cn (.t 8), (some (84, true)), []⟩,⟨(some 88), .b2s (.t 87), (some (84, true)), []⟩,⟨(some 89), .bin .plain .eql (.t 86) (.t 88), (some (84, true)), []⟩,⟨(some 90), .pick (.t 84) (.t 89) (.k (.bool false)),none,[]⟩,⟨(some 91), .mv (.t 90),none,[]⟩,⟨(some 92), .cn (.t 17), (some (91, true)), []⟩,⟨(some 93), .cn (.t 10), (some (91, true)), []⟩,⟨(some 94), .bcall n_ref17_Same [(.t 92), (.t 93)] [], (some (91, true)), []⟩,⟨(some 95), .pick (.t 91) (.t 94) (.k (.bool false)),none,[]⟩,⟨(some 4), .mv (.t 95),none,[]⟩]) (.ret i_law17_ConfStays_r))))))))))))))),
 [.tmp 4], [], false, []⟩

def i_law17_up_r : List Bool := [i_,o_,o_,o_,o_,o_,o_,o_,o_,o_,o_,o_,o_,o_,o_,o_,o_,o_,o_,o_,o_]
/-- heartwood/heartwoodlaw17.up -/
def i_law17_up : Ev.Fn := ⟨0, 21, 0, (.seq (.reg [] [⟨(some 0), .mv (.k (.bool false)),none,[]⟩]) (.seq (.reg [] [⟨(some 1), .litd 1 3 [(.int .i64 0)] [(0, (.k (.int .i64 1))), (1, (.k (.int .i64 2))), (2, (.k (.int .i64 3)))],none,[]⟩,⟨(some 2), .litd 1 3 [(.int .i64 0)] [(0, (.k (.int .i64 2))), (1, (.k (.int .i64 3))), (2, (.k (.int .i64 9)))],none,[]⟩,⟨(some 3), .qcall n_conf_Most [(.t 1), (.t 2)] [],none,[]⟩,⟨(some 4), .mv (.t 3),none,[]⟩,⟨(some 5), .litd 1 2 [(.int .i64 0)] [(0, (.k (.int .i64 1))), (1, (.k (.int .i64 2)))], (some (4, true)), []⟩,⟨(some 6), .litd 1 1 [(.int .i64 0)] [(0, (.k (.int .i64 1)))], (some (4, true)), []⟩,⟨(some 7), .qcall n_conf_Most [(.t 5), (.t 6)] [], (some (4, true)), []⟩,⟨(some 8), .un .not (.t 7), (some (4, true)), []⟩,⟨(some 9), .pick (.t 4) (.t 8) (.k (.bool false)),none,[]⟩,⟨(some 10), .mv (.t 9),none,[]⟩,⟨(some 11), .litd 1 2 [(.int .i64 0)] [(0, (.k (.int .i64 1))), (1, (.k (.int .i64 2)))], (some (10, true)), []⟩,⟨(some 12), .litd 1 3 [(.int .i64 0)] [(0, (.k (.int .i64 1))), (1, (.k (.int .i64 2))), (2, (.k (.int .i64 3)))], (some (10, true)), []⟩,⟨(some 13), .qcall n_conf_Step [(.t 11), (.t 12)] [], (some (10, true)), []⟩,⟨(some 14), .pick (.t 10) (.t 13) (.k (.bool false)),none,[]⟩,⟨(some 15), .mv (.t 14),none,[]⟩,⟨(some 16), .litd 1 2 [(.int .i64 0)] [(0, (.k (.int .i64 1))), (1, (.k (.int .i64 2)))], (some (15, true)), []⟩,⟨(some 17), .litd 1 2 [(.int .i64 0)] [(0, (.k (.int .i64 1))), (1, (.k (.int .i64 3)))], (some (15, true)), []⟩,⟨(some 18), .qcall n_conf_Step [(.t 16), (.t 17)] [], (some (15, true)), []⟩,⟨(some 19), .un .not (.t 18), (some (15, true)), []⟩,⟨(some 20), .pick (.t 15) (.t 19) (.k (.bool false)),none,[]⟩,⟨(some 0), .mv (.t 20),none,[]⟩]) (.ret i_law17_up_r))),
 [.tmp 0], [], false, []⟩

def i_conf_Most_r : List Bool := [o_,o_,o_,o_,i_,o_,o_,o_,o_,o_,o_,o_,o_,o_,o_,o_,o_,o_,o_,o_,o_,o_,o_,o_,o_,o_,o_,o_,o_]
def i_conf_Most_j1 : List Bool := [i_,i_,o_,o_,o_,i_,o_,o_,i_,i_,i_,o_,o_,o_,o_,o_,o_,o_,o_,o_,o_,o_,o_,o_,o_,o_,o_,o_,o_]
def i_conf_Most_k0 : List Bool := [i_,i_,o_,o_,o_,i_,o_,o_,i_,i_,i_,o_,o_,o_,o_,o_,o_,o_,o_,o_,o_,o_,o_,o_,o_,o_,o_,o_,o_]
def i_conf_Most_j0 : List Bool := [i_,o_,o_,o_,o_,i_,o_,o_,o_,o_,o_,o_,o_,o_,o_,o_,o_,o_,o_,o_,o_,o_,o_,o_,o_,o_,o_,o_,o_]
abbrev s_conf_Most_R (t4 : AV) (h : Heap) : St := ⟨[u_,u_,u_,u_,t4, u_,u_,u_,u_,u_,u_,u_,u_,u_,u_,u_,u_,u_,u_,u_,u_,u_,u_,u_,u_,u_,u_,u_,u_], h⟩
abbrev s_conf_Most_K0 (t0 t1 t5 t8 t9 t10 : AV) (h : Heap) : St := ⟨[t0, t1, u_,u_,u_,t5, u_,u_,t8, t9, t10, u_,u_,u_,u_,u_,u_,u_,u_,u_,u_,u_,u_,u_,u_,u_,u_,u_,u_], h⟩
def i_conf_Most_b0 : IR := (.seq (.reg [] [⟨(some 11), .bin .plain .lss (.t 10) (.t 9),none,[]⟩]) (.seq (.cond (.t 11) .skip (.exit 0 i_conf_Most_j0)) (.seq (.block 1 i_conf_Most_j1 (.seq (.reg [] [⟨(some 12), .ia 1 (.t 8) (.t 10),none,[]⟩,⟨(some 13), .load false 1 (.t 12),none,[]⟩,⟨(some 7), .mv (.t 13),none,[]⟩]) (.seq (.reg [] [⟨(some 14), .cn (.t 1),none,[]⟩,⟨(some 15), .mv (.t 7),none,[]⟩,⟨(some 16), .qcall n_conf_Has [(.t 14), (.t 15)] [],none,[]⟩]) (.cond (.t 16) (.reg [] [⟨(some 17), .mv (.t 5),none,[]⟩,⟨(some 18), .bin .plain .add (.t 17) (.k (.int .i64 1)),none,[]⟩,⟨(some 5), .mv (.t 18),none,[]⟩]) .skip)))) (.reg [] [⟨(some 19), .bin .plain .add (.t 10) (.k (.int .i64 1)),none,[]⟩,⟨(some 10), .mv (.t 19),none,[]⟩]))))

abbrev s_conf_Most_J0 (t0 t5 : AV) (h : Heap) : St := ⟨[t0, u_,u_,u_,u_,t5, u_,u_,u_,u_,u_,u_,u_,u_,u_,u_,u_,u_,u_,u_,u_,u_,u_,u_,u_,u_,u_,u_,u_], h⟩
/-- heartwood/conf.Most -/
def i_conf_Most : Ev.Fn := ⟨2, 29, 0, (.seq (.reg [] [⟨(some 4), .mv (.k (.bool false)),none,[]⟩]) (.seq (.reg [] [⟨(some 5), .mv (.k (.int .i64 0)),none,[]⟩]) (.seq (.seq (.reg [] [⟨(some 8), .cn (.t 0),none,[]⟩,⟨(some 9), .len false (.t 8),none,[]⟩,⟨(some 10), .mv (.k (.int .i64 0)),none,[]⟩]) (.block 0 i_conf_Most_j0 (.loop i_conf_Most_k0 i_conf_Most_b0))) (.seq (.reg [] [⟨(some 20), .cn (.t 0),none,[]⟩,⟨(some 21), .qcall n_conf_May [(.t 20)] [],none,[]⟩,⟨(some 22), .mv (.t 21),none,[]⟩,⟨(some 23), .mv (.t 5), (some (22, true)), []⟩,⟨(some 24), .bin .plain .mul (.k (.int .i64 2)) (.t 23), (some (22, true)), []⟩,⟨(some 25), .cn (.t 0), (some (22, true)), []⟩,⟨(some 26), .len false (.t 25), (some (22, true)), []⟩,⟨(some 27), .bin .plain .gtr (.t 24) (.t 26), (some (22, true)), []⟩,⟨(some 28), .pick (.t 22) (.t 27) (.k (.bool false)),none,[]⟩,⟨(some 4), .mv (.t 28),none,[]⟩]) (.ret i_conf_Most_r))))),
 [.tmp 4], [], false, []⟩

def i_conf_Has_r : List Bool := [o_,o_,o_,o_,i_,o_,o_,o_]
/-- heartwood/conf.Has -/
def i_conf_Has : Ev.Fn := ⟨2, 8, 0, (.seq (.reg [] [⟨(some 4), .mv (.k (.bool false)),none,[]⟩]) (.seq (.reg [] [⟨(some 5), .cn (.t 0),none,[]⟩,⟨(some 6), .mv (.t 1),none,[]⟩,⟨(some 7), .qcall n_slices_Contains_sl_int_int [(.t 5), (.t 6)] [],none,[]⟩,⟨(some 4), .mv (.t 7),none,[]⟩]) (.ret i_conf_Has_r))),
 [.tmp 4], [], false, []⟩

def i_slices_Contains_sl_int_int_r : List Bool := [o_,o_,o_,o_,i_,o_,o_,o_,o_]
/-- slices.Contains[[]int,int] -/
def i_slices_Contains_sl_int_int : Ev.Fn := ⟨2, 9, 0, (.seq (.reg [] [⟨(some 4), .mv (.k (.bool false)),none,[]⟩]) (.seq (.reg [] [⟨(some 5), .cn (.t 0),none,[]⟩,⟨(some 6), .mv (.t 1),none,[]⟩,⟨(some 7), .qcall n_slices_Index_sl_int_int [(.t 5), (.t 6)] [],none,[]⟩,⟨(some 8), .bin .plain .geq (.t 7) (.k (.int .i64 0)),none,[]⟩,⟨(some 4), .mv (.t 8),none,[]⟩]) (.ret i_slices_Contains_sl_int_int_r))),
 [.tmp 4], [], false, []⟩

def i_slices_Index_sl_int_int_r : List Bool := [o_,o_,o_,o_,i_,o_,o_,o_,o_,o_,o_,o_,o_,o_,o_,o_,o_,o_,o_]
def i_slices_Index_sl_int_int_j1 : List Bool := [i_,i_,o_,o_,o_,o_,o_,i_,i_,o_,o_,o_,o_,o_,o_,o_,o_,o_,o_]
def i_slices_Index_sl_int_int_k0 : List Bool := [i_,i_,o_,o_,o_,o_,o_,i_,i_,o_,o_,o_,o_,o_,o_,o_,o_,o_,o_]
def i_slices_Index_sl_int_int_j0 : List Bool := [o_,o_,o_,o_,o_,o_,o_,o_,o_,o_,o_,o_,o_,o_,o_,o_,o_,o_,o_]
abbrev s_slices_Index_sl_int_int_R (t4 : AV) (h : Heap) : St := ⟨[u_,u_,u_,u_,t4, u_,u_,u_,u_,u_,u_,u_,u_,u_,u_,u_,u_,u_,u_], h⟩
abbrev s_slices_Index_sl_int_int_K0 (t0 t1 t7 t8 : AV) (h : Heap) : St := ⟨[t0, t1, u_,u_,u_,u_,u_,t7, t8, u_,u_,u_,u_,u_,u_,u_,u_,u_,u_], h⟩
def i_slices_Index_sl_int_int_b0 : IR := (.seq (.reg [] [⟨(some 9), .bin .plain .lss (.t 8) (.t 7),none,[]⟩]) (.seq (.cond (.t 9) .skip (.exit 0 i_slices_Index_sl_int_int_j0)) (.seq (.block 1 i_slices_Index_sl_int_int_j1 (.seq (.reg [] [⟨(some 10), .mv (.t 8),none,[]⟩,⟨(some 5), .mv (.t 10),none,[]⟩]) (.seq (.reg [] [⟨(some 11), .mv (.t 1),none,[]⟩,⟨(some 12), .cn (.t 0),none,[]⟩,⟨(some 13), .mv (.t 5),none,[]⟩,⟨(some 14), .ia 1 (.t 12) (.t 13),none,[]⟩,⟨(some 15), .load false 1 (.t 14),none,[]⟩,⟨(some 16), .bin .plain .eql (.t 11) (.t 15),none,[]⟩]) (.cond (.t 16) (.seq (.reg [] [⟨(some 17), .mv (.t 5),none,[]⟩,⟨(some 4), .mv (.t 17),none,[]⟩]) (.ret i_slices_Index_sl_int_int_r)) .skip)))) (.reg [] [⟨(some 18), .bin .plain .add (.t 8) (.k (.int .i64 1)),none,[]⟩,⟨(some 8), .mv (.t 18),none,[]⟩]))))

abbrev s_slices_Index_sl_int_int_J0 (h : Heap) : St := ⟨[u_,u_,u_,u_,u_,u_,u_,u_,u_,u_,u_,u_,u_,u_,u_,u_,u_,u_,u_], h⟩
/-- slices.Index[[]int,int] -/
def i_slices_Index_sl_int_int : Ev.Fn := ⟨2, 19, 0, (.seq (.reg [] [⟨(some 4), .mv (.k (.int .i64 0)),none,[]⟩]) (.seq (.seq (.reg [] [⟨(some 6), .cn (.t 0),none,[]⟩,⟨(some 7), .len false (.t 6),none,[]⟩,⟨(some 8), .mv (.k (.int .i64 0)),none,[]⟩]) (.block 0 i_slices_Index_sl_int_int_j0 (.loop i_slices_Index_sl_int_int_k0 i_slices_Index_sl_int_int_b0))) (.seq (.reg [] [⟨(some 4), .mv (.k (.int .i64 (-1))),none,[]⟩]) (.ret i_slices_Index_sl_int_int_r)))),
 [.tmp 4], [], false, []⟩

def i_conf_May_r : List Bool := [o_,o_,i_,o_,o_,o_,o_,o_,o_,o_,o_,o_,o_,o_,o_,o_,o_,o_,o_,o_,o_,o_,o_,o_,o_,o_,o_,o_,o_,o_,o_,o_,o_,o_,o_]
def i_conf_May_j1 : List Bool := [i_,o_,o_,o_,o_,i_,i_,i_,o_,o_,o_,o_,o_,o_,o_,o_,o_,o_,o_,o_,o_,o_,o_,o_,o_,o_,o_,o_,o_,o_,o_,o_,o_,o_,o_]
def i_conf_May_k0 : List Bool := [i_,o_,o_,o_,o_,i_,i_,i_,o_,o_,o_,o_,o_,o_,o_,o_,o_,o_,o_,o_,o_,o_,o_,o_,o_,o_,o_,o_,o_,o_,o_,o_,o_,o_,o_]
def i_conf_May_j0 : List Bool := [i_,o_,o_,o_,o_,o_,o_,o_,o_,o_,o_,o_,o_,o_,o_,o_,o_,o_,o_,o_,o_,o_,o_,o_,o_,o_,o_,o_,o_,o_,o_,o_,o_,o_,o_]
abbrev s_conf_May_R (t2 : AV) (h : Heap) : St := ⟨[u_,u_,t2, u_,u_,u_,u_,u_,u_,u_,u_,u_,u_,u_,u_,u_,u_,u_,u_,u_,u_,u_,u_,u_,u_,u_,u_,u_,u_,u_,u_,u_,u_,u_,u_], h⟩
abbrev s_conf_May_K0 (t0 t5 t6 t7 : AV) (h : Heap) : St := ⟨[t0, u_,u_,u_,u_,t5, t6, t7, u_,u_,u_,u_,u_,u_,u_,u_,u_,u_,u_,u_,u_,u_,u_,u_,u_,u_,u_,u_,u_,u_,u_,u_,u_,u_,u_], h⟩
def i_conf_May_b0 : IR := (.seq (.reg [] [⟨(some 8), .bin .plain .lss (.t 7) (.t 6),none,[]⟩]) (.seq (.cond (.t 8) .skip (.exit 0 i_conf_May_j0)) (.seq (.block 1 i_conf_May_j1 (.seq (.reg [] [⟨(some 9), .mv (.t 7),none,[]⟩,⟨(some 10), .ia 1 (.t 5) (.t 7),none,[]⟩,⟨(some 11), .load false 1 (.t 10),none,[]⟩,⟨(some 3), .mv (.t 9),none,[]⟩,⟨(some 4), .mv (.t 11),none,[]⟩]) (.seq (.reg [] [⟨(some 12), .mv (.t 4),none,[]⟩,⟨(some 13), .bin .plain .lss (.t 12) (.k (.int .i64 1)),none,[]⟩,⟨(some 14), .mv (.t 13),none,[]⟩,⟨(some 15), .mv (.t 4), (some (14, false)), []⟩,⟨(some 16), .bin .plain .gtr (.t 15) (.k (.int .i64 7)), (some (14, false)), []⟩,⟨(some 17), .pick (.t 14) (.k (.bool true)) (.t 16),none,[]⟩,⟨(some 18), .mv (.t 17),none,[]⟩,⟨(some 19), .mv (.t 3), (some (18, false)), []⟩,⟨(some 20), .bin .plain .gtr (.t 19) (.k (.int .i64 0)), (some (18, false)), []⟩,⟨(some 21), .mv (.t 20), (some (18, false)), []⟩,⟨(some 22), .mv (.t 4), (some (21, true)), []⟩,⟨(some 23), .cn (.t 0), (some (21, true)), []⟩,⟨(some 24), .mv (.t 3), (some (21, true)), []⟩,⟨(some 25), .bin .plain .sub (.t 24) (.k (.int .i64 1)), (some (21, true)), []⟩,⟨(some 26), .ia 1 (.t 23) (.t 25), (some (21, true)), []⟩,⟨(some 27), .load false 1 (.t 26), (some (21, true)), []⟩,⟨(some 28), .bin .plain .leq (.t 22) (.t 27), (some (21, true)), []⟩,⟨(some 29), .pick (.t 21) (.t 28) (.k (.bool false)), (some (18, false)), []⟩,⟨(some 30), .pick (.t 18) (.k (.bool true)) (.t 29),none,[]⟩]) (.cond (.t 30) (.seq (.reg [] [⟨(some 2), .mv (.k (.bool false)),none,[]⟩]) (.ret i_conf_May_r)) .skip)))) (.reg [] [⟨(some 31), .bin .plain .add (.t 7) (.k (.int .i64 1)),none,[]⟩,⟨(some 7), .mv (.t 31),none,[]⟩]))))

abbrev s_conf_May_J0 (t0 : AV) (h : Heap) : St := ⟨[t0, u_,u_,u_,u_,u_,u_,u_,u_,u_,u_,u_,u_,u_,u_,u_,u_,u_,u_,u_,u_,u_,u_,u_,u_,u_,u_,u_,u_,u_,u_,u_,u_,u_,u_], h⟩
/-- heartwood/conf.May -/
def i_conf_May : Ev.Fn := ⟨1, 35, 0, (.seq (.reg [] [⟨(some 2), .mv (.k (.bool false)),none,[]⟩]) (.seq (.seq (.reg [] [⟨(some 5), .cn (.t 0),none,[]⟩,⟨(some 6), .len false (.t 5),none,[]⟩,⟨(some 7), .mv (.k (.int .i64 0)),none,[]⟩]) (.block 0 i_conf_May_j0 (.loop i_conf_May_k0 i_conf_May_b0))) (.seq (.reg [] [⟨(some 32), .cn (.t 0),none,[]⟩,⟨(some 33), .len false (.t 32),none,[]⟩,⟨(some 34), .bin .plain .gtr (.t 33) (.k (.int .i64 0)),none,[]⟩,⟨(some 2), .mv (.t 34),none,[]⟩]) (.ret i_conf_May_r)))),
 [.tmp 2], [], false, []⟩

def i_conf_Step_r : List Bool := [o_,o_,o_,o_,i_,o_,o_,o_,o_,o_,o_,o_,o_,o_,o_,o_,o_,o_,o_,o_,o_,o_,o_,o_,o_,o_,o_,o_,o_,o_,o_,o_]
/-- heartwood/conf.Step -/
def i_conf_Step : Ev.Fn := ⟨2, 32, 1, (.seq (.reg [] [⟨(some 3), .box 0 1 (.t 1),none,[]⟩,⟨(some 4), .mv (.k (.bool false)),none,[]⟩]) (.seq (.seq (.reg [] [⟨(some 5), .cn (.t 0),none,[]⟩,⟨(some 6), .len false (.t 5),none,[]⟩,⟨(some 7), .load false 1 (.t 3),none,[]⟩,⟨(some 8), .len false (.t 7),none,[]⟩,⟨(some 9), .bin .plain .gtr (.t 6) (.t 8),none,[]⟩]) (.cond (.t 9) (.reg [] [⟨(some 10), .load false 1 (.t 3),none,[]⟩,⟨(some 11), .cn (.t 0),none,[]⟩,⟨(some 0), .cn (.t 10),none,[]⟩,⟨none, .store 1 (.t 3) (.t 11),none,[]⟩]) .skip)) (.seq (.reg [] [⟨(some 12), .cn (.t 0),none,[]⟩,⟨(some 13), .qcall n_conf_May [(.t 12)] [],none,[]⟩,⟨(some 14), .mv (.t 13),none,[]⟩,⟨(some 15), .load false 1 (.t 3), (some (14, true)), []⟩,⟨(some 16), .qcall n_conf_May [(.t 15)] [], (some (14, true)), []⟩,⟨(some 17), .pick (.t 14) (.t 16) (.k (.bool false)),none,[]⟩,⟨(some 18), .mv (.t 17),none,[]⟩,⟨(some 19), .load false 1 (.t 3), (some (18, true)), []⟩,⟨(some 20), .len false (.t 19), (some (18, true)), []⟩,⟨(some 21), .cn (.t 0), (some (18, true)), []⟩,⟨(some 22), .len false (.t 21), (some (18, true)), []⟩,⟨(some 23), .bin .plain .add (.t 22) (.k (.int .i64 1)), (some (18, true)), []⟩,⟨(some 24), .bin .plain .eql (.t 20) (.t 23), (some (18, true)), []⟩,⟨(some 25), .pick (.t 18) (.t 24) (.k (.bool false)),none,[]⟩,⟨(some 26), .mv (.t 25),none,[]⟩,⟨(some 27), .cn (.t 0), (some (26, true)), []⟩,⟨(some 28), .mkf n_conf_Step_1 [(.t 3)], (some (26, true)), []⟩,⟨(some 29), .call n_slices_ContainsFunc_sl_int_int [(.t 27), (.t 28)] [], (some (26, true)), []⟩,⟨(some 30), .un .not (.t 29), (some (26, true)), []⟩,⟨(some 31), .pick (.t 26) (.t 30) (.k (.bool false)),none,[]⟩,⟨(some 4), .mv (.t 31),none,[]⟩]) (.ret i_conf_Step_r)))),
 [.tmp 4], [], false, []⟩

def i_conf_Step_1_r : List Bool := [o_,o_,o_,i_,o_,o_,o_,o_]
/-- heartwood/conf.Step$1 -/
def i_conf_Step_1 : Ev.Fn := ⟨2, 8, 0, (.seq (.reg [] [⟨(some 3), .mv (.k (.bool false)),none,[]⟩]) (.seq (.reg [] [⟨(some 4), .load false 1 (.t 1),none,[]⟩,⟨(some 5), .mv (.t 0),none,[]⟩,⟨(some 6), .qcall n_conf_Has [(.t 4), (.t 5)] [], none, [4]⟩,⟨(some 7), .un .not (.t 6),none,[]⟩,⟨(some 3), .mv (.t 7),none,[]⟩]) (.ret i_conf_Step_1_r))),
 [.tmp 3], [], false, []⟩

def i_slices_ContainsFunc_sl_int_int_r : List Bool := [o_,o_,o_,o_,i_,o_,o_,o_,o_]
/-- slices.ContainsFunc[[]int,int] -/
def i_slices_ContainsFunc_sl_int_int : Ev.Fn := ⟨2, 9, 0, (.seq (.reg [] [⟨(some 4), .mv (.k (.bool false)),none,[]⟩]) (.seq (.reg [] [⟨(some 5), .cn (.t 0),none,[]⟩,⟨(some 6), .mv (.t 1),none,[]⟩,⟨(some 7), .call n_slices_IndexFunc_sl_int_int [(.t 5), (.t 6)] [],none,[]⟩,⟨(some 8), .bin .plain .geq (.t 7) (.k (.int .i64 0)),none,[]⟩,⟨(some 4), .mv (.t 8),none,[]⟩]) (.ret i_slices_ContainsFunc_sl_int_int_r))),
 [.tmp 4], [], false, []⟩

def i_slices_IndexFunc_sl_int_int_r : List Bool := [o_,o_,o_,o_,i_,o_,o_,o_,o_,o_,o_,o_,o_,o_,o_,o_,o_,o_,o_]
def i_slices_IndexFunc_sl_int_int_j1 : List Bool := [i_,i_,o_,o_,o_,o_,o_,i_,i_,o_,o_,o_,o_,o_,o_,o_,o_,o_,o_]
def i_slices_IndexFunc_sl_int_int_k0 : List Bool := [i_,i_,o_,o_,o_,o_,o_,i_,i_,o_,o_,o_,o_,o_,o_,o_,o_,o_,o_]
def i_slices_IndexFunc_sl_int_int_j0 : List Bool := [o_,o_,o_,o_,o_,o_,o_,o_,o_,o_,o_,o_,o_,o_,o_,o_,o_,o_,o_]
abbrev s_slices_IndexFunc_sl_int_int_R (t4 : AV) (h : Heap) : St := ⟨[u_,u_,u_,u_,t4, u_,u_,u_,u_,u_,u_,u_,u_,u_,u_,u_,u_,u_,u_], h⟩
abbrev s_slices_IndexFunc_sl_int_int_K0 (t0 t1 t7 t8 : AV) (h : Heap) : St := ⟨[t0, t1, u_,u_,u_,u_,u_,t7, t8, u_,u_,u_,u_,u_,u_,u_,u_,u_,u_], h⟩
def i_slices_IndexFunc_sl_int_int_b0 : IR := (.seq (.reg [] [⟨(some 9), .bin .plain .lss (.t 8) (.t 7),none,[]⟩]) (.seq (.cond (.t 9) .skip (.exit 0 i_slices_IndexFunc_sl_int_int_j0)) (.seq (.block 1 i_slices_IndexFunc_sl_int_int_j1 (.seq (.reg [] [⟨(some 10), .mv (.t 8),none,[]⟩,⟨(some 5), .mv (.t 10),none,[]⟩]) (.seq (.reg [] [⟨(some 11), .mv (.t 1),none,[]⟩,⟨(some 12), .cn (.t 0),none,[]⟩,⟨(some 13), .mv (.t 5),none,[]⟩,⟨(some 14), .ia 1 (.t 12) (.t 13),none,[]⟩,⟨(some 15), .load false 1 (.t 14),none,[]⟩,⟨(some 16), .callv (.t 11) [(.t 15)] [],none,[]⟩]) (.cond (.t 16) (.seq (.reg [] [⟨(some 17), .mv (.t 5),none,[]⟩,⟨(some 4), .mv (.t 17),none,[]⟩]) (.ret i_slices_IndexFunc_sl_int_int_r)) .skip)))) (.reg [] [⟨(some 18), .bin .plain .add (.t 8) (.k (.int .i64 1)),none,[]⟩,⟨(some 8), .mv (.t 18),none,[]⟩]))))

abbrev s_slices_IndexFunc_sl_int_int_J0 (h : Heap) : St := ⟨[u_,u_,u_,u_,u_,u_,u_,u_,u_,u_,u_,u_,u_,u_,u_,u_,u_,u_,u_], h⟩
/-- slices.IndexFunc[[]int,int] -/
def i_slices_IndexFunc_sl_int_int : Ev.Fn := ⟨2, 19, 0, (.seq (.reg [] [⟨(some 4), .mv (.k (.int .i64 0)),none,[]⟩]) (.seq (.seq (.reg [] [⟨(some 6), .cn (.t 0),none,[]⟩,⟨(some 7), .len false (.t 6),none,[]⟩,⟨(some 8), .mv (.k (.int .i64 0)),none,[]⟩]) (.block 0 i_slices_IndexFunc_sl_int_int_j0 (.loop i_slices_IndexFunc_sl_int_int_k0 i_slices_IndexFunc_sl_int_int_b0))) (.seq (.reg [] [⟨(some 4), .mv (.k (.int .i64 (-1))),none,[]⟩]) (.ret i_slices_IndexFunc_sl_int_int_r)))),
 [.tmp 4], [], false, []⟩

def i_conf_Bytes_v1_r : List Bool := [o_,o_,i_,i_,o_,o_,o_,o_,o_,o_,o_,o_,o_,o_,o_,o_,o_,o_,o_,o_,o_,o_,o_,o_]
def i_conf_Bytes_v1_j1 : List Bool := [o_,o_,o_,o_,i_,o_,o_,o_,o_,o_,o_,i_,i_,i_,o_,o_,o_,o_,o_,o_,o_,o_,o_,o_]
def i_conf_Bytes_v1_k0 : List Bool := [o_,o_,o_,o_,i_,o_,o_,o_,o_,o_,o_,i_,i_,i_,o_,o_,o_,o_,o_,o_,o_,o_,o_,o_]
def i_conf_Bytes_v1_j0 : List Bool := [o_,o_,o_,o_,i_,o_,o_,o_,o_,o_,o_,o_,o_,o_,o_,o_,o_,o_,o_,o_,o_,o_,o_,o_]
abbrev s_conf_Bytes_v1_R (t2 t3 : AV) (h : Heap) : St := ⟨[u_,u_,t2, t3, u_,u_,u_,u_,u_,u_,u_,u_,u_,u_,u_,u_,u_,u_,u_,u_,u_,u_,u_,u_], h⟩
abbrev s_conf_Bytes_v1_K0 (t4 t11 t12 t13 : AV) (h : Heap) : St := ⟨[u_,u_,u_,u_,t4, u_,u_,u_,u_,u_,u_,t11, t12, t13, u_,u_,u_,u_,u_,u_,u_,u_,u_,u_], h⟩
def i_conf_Bytes_v1_b0 : IR := (.seq (.reg [] [⟨(some 14), .bin .plain .lss (.t 13) (.t 12),none,[]⟩]) (.seq (.cond (.t 14) .skip (.exit 0 i_conf_Bytes_v1_j0)) (.seq (.block 1 i_conf_Bytes_v1_j1 (.seq (.reg [] [⟨(some 15), .ia 1 (.t 11) (.t 13),none,[]⟩,⟨(some 16), .load false 1 (.t 15),none,[]⟩,⟨(some 6), .mv (.t 16),none,[]⟩]) (.reg [] [⟨(some 17), .mv (.t 4),none,[]⟩,⟨(some 18), .mv (.t 6),none,[]⟩,⟨(some 19), .conv .u8 (.t 18),none,[]⟩,⟨(some 20), .litd 1 1 [(.int .u8 0)] [(0, (.t 19))],none,[]⟩,⟨(some 21), .app 0 ty_uint8 1 1 (.t 17) (.t 20),none,[]⟩,⟨(some 4), .mv (.t 21),none,[]⟩]))) (.reg [] [⟨(some 22), .bin .plain .add (.t 13) (.k (.int .i64 1)),none,[]⟩,⟨(some 13), .mv (.t 22),none,[]⟩]))))

abbrev s_conf_Bytes_v1_J0 (t4 : AV) (h : Heap) : St := ⟨[u_,u_,u_,u_,t4, u_,u_,u_,u_,u_,u_,u_,u_,u_,u_,u_,u_,u_,u_,u_,u_,u_,u_,u_], h⟩
/-- heartwood/conf.Bytes -/
def i_conf_Bytes_v1 : Ev.Fn := ⟨1, 24, 1, (.seq (.reg [] [⟨(some 2), .mv (.k (.slice none 0 0)),none,[]⟩,⟨(some 3), .mv (.k .nilIface),none,[]⟩]) (.seq (.seq (.reg [] [⟨(some 7), .cn (.t 0),none,[]⟩,⟨(some 8), .qcall n_conf_May [(.t 7)] [],none,[]⟩,⟨(some 9), .un .not (.t 8),none,[]⟩]) (.cond (.t 9) (.seq (.reg [] [⟨(some 10), .mki ty_api_Code (.k (.int .i64 1)),none,[]⟩,⟨(some 2), .mv (.k (.slice none 0 0)),none,[]⟩,⟨(some 3), .mv (.t 10),none,[]⟩]) (.ret i_conf_Bytes_v1_r)) .skip)) (.seq (.reg [] [⟨(some 4), .mv (.k (.slice none 0 0)),none,[]⟩]) (.seq (.seq (.reg [] [⟨(some 11), .cn (.t 0),none,[]⟩,⟨(some 12), .len false (.t 11),none,[]⟩,⟨(some 13), .mv (.k (.int .i64 0)),none,[]⟩]) (.block 0 i_conf_Bytes_v1_j0 (.loop i_conf_Bytes_v1_k0 i_conf_Bytes_v1_b0))) (.seq (.reg [] [⟨(some 23), .mv (.t 4),none,[]⟩,⟨(some 2), .mv (.t 23),none,[]⟩,⟨(some 3), .mv (.k .nilIface),none,[]⟩]) (.ret i_conf_Bytes_v1_r)))))),
 [.tmp 2, .tmp 3], [i_,o_], false, []⟩

def i_conf_Of_v1_r : List Bool := [o_,o_,i_,i_,o_,o_,o_,o_,o_,o_,o_,o_,o_,o_,o_,o_,o_,o_,o_,o_,o_,o_,o_,o_]
def i_conf_Of_v1_j1 : List Bool := [o_,o_,o_,o_,i_,o_,o_,i_,i_,i_,o_,o_,o_,o_,o_,o_,o_,o_,o_,o_,o_,o_,o_,o_]
def i_conf_Of_v1_k0 : List Bool := [o_,o_,o_,o_,i_,o_,o_,i_,i_,i_,o_,o_,o_,o_,o_,o_,o_,o_,o_,o_,o_,o_,o_,o_]
def i_conf_Of_v1_j0 : List Bool := [o_,o_,o_,o_,i_,o_,o_,o_,o_,o_,o_,o_,o_,o_,o_,o_,o_,o_,o_,o_,o_,o_,o_,o_]
abbrev s_conf_Of_v1_R (t2 t3 : AV) (h : Heap) : St := ⟨[u_,u_,t2, t3, u_,u_,u_,u_,u_,u_,u_,u_,u_,u_,u_,u_,u_,u_,u_,u_,u_,u_,u_,u_], h⟩
abbrev s_conf_Of_v1_K0 (t4 t7 t8 t9 : AV) (h : Heap) : St := ⟨[u_,u_,u_,u_,t4, u_,u_,t7, t8, t9, u_,u_,u_,u_,u_,u_,u_,u_,u_,u_,u_,u_,u_,u_], h⟩
def i_conf_Of_v1_b0 : IR := (.seq (.reg [] [⟨(some 10), .bin .plain .lss (.t 9) (.t 8),none,[]⟩]) (.seq (.cond (.t 10) .skip (.exit 0 i_conf_Of_v1_j0)) (.seq (.block 1 i_conf_Of_v1_j1 (.seq (.reg [] [⟨(some 11), .ia 1 (.t 7) (.t 9),none,[]⟩,⟨(some 12), .load false 1 (.t 11),none,[]⟩,⟨(some 6), .mv (.t 12),none,[]⟩]) (.reg [] [⟨(some 13), .mv (.t 4),none,[]⟩,⟨(some 14), .mv (.t 6),none,[]⟩,⟨(some 15), .conv .i64 (.t 14),none,[]⟩,⟨(some 16), .litd 1 1 [(.int .i64 0)] [(0, (.t 15))],none,[]⟩,⟨(some 17), .app 0 ty_int 1 8 (.t 13) (.t 16),none,[]⟩,⟨(some 4), .mv (.t 17),none,[]⟩]))) (.reg [] [⟨(some 18), .bin .plain .add (.t 9) (.k (.int .i64 1)),none,[]⟩,⟨(some 9), .mv (.t 18),none,[]⟩]))))

abbrev s_conf_Of_v1_J0 (t4 : AV) (h : Heap) : St := ⟨[u_,u_,u_,u_,t4, u_,u_,u_,u_,u_,u_,u_,u_,u_,u_,u_,u_,u_,u_,u_,u_,u_,u_,u_], h⟩
/-- heartwood/conf.Of -/
def i_conf_Of_v1 : Ev.Fn := ⟨1, 24, 1, (.seq (.reg [] [⟨(some 2), .mv (.k (.slice none 0 0)),none,[]⟩,⟨(some 3), .mv (.k .nilIface),none,[]⟩]) (.seq (.reg [] [⟨(some 4), .mv (.k (.slice none 0 0)),none,[]⟩]) (.seq (.seq (.reg [] [⟨(some 7), .cn (.t 0),none,[]⟩,⟨(some 8), .len false (.t 7),none,[]⟩,⟨(some 9), .mv (.k (.int .i64 0)),none,[]⟩]) (.block 0 i_conf_Of_v1_j0 (.loop i_conf_Of_v1_k0 i_conf_Of_v1_b0))) (.seq (.seq (.reg [] [⟨(some 19), .cn (.t 4),none,[]⟩,⟨(some 20), .bcall n_conf_May [(.t 19)] [],none,[]⟩,⟨(some 21), .un .not (.t 20),none,[]⟩]) (.cond (.t 21) (.seq (.reg [] [⟨(some 22), .mki ty_api_Code (.k (.int .i64 3)),none,[]⟩,⟨(some 2), .mv (.k (.slice none 0 0)),none,[]⟩,⟨(some 3), .mv (.t 22),none,[]⟩]) (.ret i_conf_Of_v1_r)) .skip)) (.seq (.reg [] [⟨(some 23), .mv (.t 4),none,[]⟩,⟨(some 2), .mv (.t 23),none,[]⟩,⟨(some 3), .mv (.k .nilIface),none,[]⟩]) (.ret i_conf_Of_v1_r)))))),
 [.tmp 2, .tmp 3], [i_,o_], false, []⟩

def i_ref17_Same_r : List Bool := [o_,o_,o_,o_,i_,o_,o_,o_,o_,o_,o_,o_,o_,o_,o_,o_,o_,o_,o_,o_,o_,o_,o_,o_,o_,o_]
def i_ref17_Same_j1 : List Bool := [i_,i_,o_,o_,o_,i_,o_,o_,o_,o_,o_,o_,o_,o_,o_,o_,o_,o_,o_,o_,o_,o_,o_,o_,o_,o_]
def i_ref17_Same_k0 : List Bool := [i_,i_,o_,o_,o_,i_,o_,o_,o_,o_,o_,o_,o_,o_,o_,o_,o_,o_,o_,o_,o_,o_,o_,o_,o_,o_]
def i_ref17_Same_j0 : List Bool := [o_,o_,o_,o_,o_,o_,o_,o_,o_,o_,o_,o_,o_,o_,o_,o_,o_,o_,o_,o_,o_,o_,o_,o_,o_,o_]
abbrev s_ref17_Same_R (t4 : AV) (h : Heap) : St := ⟨[u_,u_,u_,u_,t4, u_,u_,u_,u_,u_,u_,u_,u_,u_,u_,u_,u_,u_,u_,u_,u_,u_,u_,u_,u_,u_], h⟩
abbrev s_ref17_Same_K0 (t0 t1 t5 : AV) (h : Heap) : St := ⟨[t0, t1, u_,u_,u_,t5, u_,u_,u_,u_,u_,u_,u_,u_,u_,u_,u_,u_,u_,u_,u_,u_,u_,u_,u_,u_], h⟩
def i_ref17_Same_b0 : IR := (.seq (.seq (.reg [] [⟨(some 11), .mv (.t 5),none,[]⟩,⟨(some 12), .cn (.t 0),none,[]⟩,⟨(some 13), .len false (.t 12),none,[]⟩,⟨(some 14), .bin .plain .lss (.t 11) (.t 13),none,[]⟩]) (.cond (.t 14) .skip (.exit 0 i_ref17_Same_j0))) (.seq (.block 1 i_ref17_Same_j1 (.seq (.reg [] [⟨(some 17), .cn (.t 0),none,[]⟩,⟨(some 18), .mv (.t 5),none,[]⟩,⟨(some 19), .ia 1 (.t 17) (.t 18),none,[]⟩,⟨(some 20), .load false 1 (.t 19),none,[]⟩,⟨(some 21), .cn (.t 1),none,[]⟩,⟨(some 22), .mv (.t 5),none,[]⟩,⟨(some 23), .ia 1 (.t 21) (.t 22),none,[]⟩,⟨(some 24), .load false 1 (.t 23),none,[]⟩,⟨(some 25), .bin .plain .neq (.t 20) (.t 24),none,[]⟩]) (.cond (.t 25) (.seq (.reg [] [⟨(some 4), .mv (.k (.bool false)),none,[]⟩]) (.ret i_ref17_Same_r)) .skip))) (.reg [] [⟨(some 15), .mv (.t 5),none,[]⟩,⟨(some 16), .bin .plain .add (.t 15) (.k (.int .i64 1)),none,[]⟩,⟨(some 5), .mv (.t 16),none,[]⟩])))

abbrev s_ref17_Same_J0 (h : Heap) : St := ⟨[u_,u_,u_,u_,u_,u_,u_,u_,u_,u_,u_,u_,u_,u_,u_,u_,u_,u_,u_,u_,u_,u_,u_,u_,u_,u_], h⟩
/-- heartwood/heartwoodref17.Same -/
def i_ref17_Same : Ev.Fn := ⟨2, 26, 0, (.seq (.reg [] [⟨(some 4), .mv (.k (.bool false)),none,[]⟩]) (.seq (.seq (.reg [] [⟨(some 6), .cn (.t 0),none,[]⟩,⟨(some 7), .len false (.t 6),none,[]⟩,⟨(some 8), .cn (.t 1),none,[]⟩,⟨(some 9), .len false (.t 8),none,[]⟩,⟨(some 10), .bin .plain .neq (.t 7) (.t 9),none,[]⟩]) (.cond (.t 10) (.seq (.reg [] [⟨(some 4), .mv (.k (.bool false)),none,[]⟩]) (.ret i_ref17_Same_r)) .skip)) (.seq (.seq (.reg [] [⟨(some 5), .mv (.k (.int .i64 0)),none,[]⟩]) (.block 0 i_ref17_Same_j0 (.loop i_ref17_Same_k0 i_ref17_Same_b0))) (.seq (.reg [] [⟨(some 4), .mv (.k (.bool true)),none,[]⟩]) (.ret i_ref17_Same_r))))),
 [.tmp 4], [], false, []⟩

def tab (f : Nat) : Option Ev.Fn := match f with
  | 7 => some i_law17_ConfStays
  | 15 => some i_law17_up
  | 18 => some i_conf_Most
  | 16 => some i_conf_Has
  | 53 => some i_slices_Contains_sl_int_int
  | 91 => some i_slices_Index_sl_int_int
  | 27 => some i_conf_May
  | 20 => some i_conf_Step
  | 55 => some i_conf_Step_1
  | 54 => some i_slices_ContainsFunc_sl_int_int
  | 92 => some i_slices_IndexFunc_sl_int_int
  | 1000023 => some i_conf_Bytes_v1
  | 1000024 => some i_conf_Of_v1
  | 22 => some i_ref17_Same
  | _ => none
theorem t_law17_ConfStays : tab n_law17_ConfStays = some i_law17_ConfStays := rfl
theorem t_law17_up : tab n_law17_up = some i_law17_up := rfl
theorem t_conf_Most : tab n_conf_Most = some i_conf_Most := rfl
theorem t_conf_Has : tab n_conf_Has = some i_conf_Has := rfl
theorem t_slices_Contains_sl_int_int : tab n_slices_Contains_sl_int_int = some i_slices_Contains_sl_int_int := rfl
theorem t_slices_Index_sl_int_int : tab n_slices_Index_sl_int_int = some i_slices_Index_sl_int_int := rfl
theorem t_conf_May : tab n_conf_May = some i_conf_May := rfl
theorem t_conf_Step : tab n_conf_Step = some i_conf_Step := rfl
theorem t_conf_Step_1 : tab n_conf_Step_1 = some i_conf_Step_1 := rfl
theorem t_slices_ContainsFunc_sl_int_int : tab n_slices_ContainsFunc_sl_int_int = some i_slices_ContainsFunc_sl_int_int := rfl
theorem t_slices_IndexFunc_sl_int_int : tab n_slices_IndexFunc_sl_int_int = some i_slices_IndexFunc_sl_int_int := rfl
theorem t_conf_Bytes_v1 : tab n_conf_Bytes_v1 = some i_conf_Bytes_v1 := rfl
theorem t_conf_Of_v1 : tab n_conf_Of_v1 = some i_conf_Of_v1 := rfl
theorem t_ref17_Same : tab n_ref17_Same = some i_ref17_Same := rfl
def G0 : Cf := ⟨fun _ => [], true⟩
@[go_sem] theorem G0_gf : G0.gf = true := rfl
@[go_sem] theorem lt_law17_ConfStays : (n_law17_ConfStays < 1000000) = True := eq_true (by decide)
@[go_sem] theorem lt_law17_up : (n_law17_up < 1000000) = True := eq_true (by decide)
@[go_sem] theorem lt_conf_Most : (n_conf_Most < 1000000) = True := eq_true (by decide)
@[go_sem] theorem lt_conf_Has : (n_conf_Has < 1000000) = True := eq_true (by decide)
@[go_sem] theorem lt_slices_Contains_sl_int_int : (n_slices_Contains_sl_int_int < 1000000) = True := eq_true (by decide)
@[go_sem] theorem lt_slices_Index_sl_int_int : (n_slices_Index_sl_int_int < 1000000) = True := eq_true (by decide)
@[go_sem] theorem lt_conf_May : (n_conf_May < 1000000) = True := eq_true (by decide)
@[go_sem] theorem lt_conf_Step : (n_conf_Step < 1000000) = True := eq_true (by decide)
@[go_sem] theorem lt_conf_Step_1 : (n_conf_Step_1 < 1000000) = True := eq_true (by decide)
@[go_sem] theorem lt_slices_ContainsFunc_sl_int_int : (n_slices_ContainsFunc_sl_int_int < 1000000) = True := eq_true (by decide)
@[go_sem] theorem lt_slices_IndexFunc_sl_int_int : (n_slices_IndexFunc_sl_int_int < 1000000) = True := eq_true (by decide)
@[go_sem] theorem lt_ref17_Same : (n_ref17_Same < 1000000) = True := eq_true (by decide)
theorem ca_law17_ConfStays (l : List AV) : cArgs tab n_law17_ConfStays l = canonA [] l := rfl
attribute [go_sem] t_law17_ConfStays ca_law17_ConfStays
theorem ca_law17_up (l : List AV) : cArgs tab n_law17_up l = canonA [] l := rfl
attribute [go_sem] t_law17_up ca_law17_up
theorem ca_conf_Most (l : List AV) : cArgs tab n_conf_Most l = canonA [] l := rfl
attribute [go_sem] t_conf_Most ca_conf_Most
theorem ca_conf_Has (l : List AV) : cArgs tab n_conf_Has l = canonA [] l := rfl
attribute [go_sem] t_conf_Has ca_conf_Has
theorem ca_slices_Contains_sl_int_int (l : List AV) : cArgs tab n_slices_Contains_sl_int_int l = canonA [] l := rfl
attribute [go_sem] t_slices_Contains_sl_int_int ca_slices_Contains_sl_int_int
theorem ca_slices_Index_sl_int_int (l : List AV) : cArgs tab n_slices_Index_sl_int_int l = canonA [] l := rfl
attribute [go_sem] t_slices_Index_sl_int_int ca_slices_Index_sl_int_int
theorem ca_conf_May (l : List AV) : cArgs tab n_conf_May l = canonA [] l := rfl
attribute [go_sem] t_conf_May ca_conf_May
theorem ca_conf_Step (l : List AV) : cArgs tab n_conf_Step l = canonA [] l := rfl
attribute [go_sem] t_conf_Step ca_conf_Step
theorem ca_conf_Step_1 (l : List AV) : cArgs tab n_conf_Step_1 l = canonA [] l := rfl
attribute [go_sem] t_conf_Step_1 ca_conf_Step_1
theorem ca_slices_ContainsFunc_sl_int_int (l : List AV) : cArgs tab n_slices_ContainsFunc_sl_int_int l = canonA [] l := rfl
attribute [go_sem] t_slices_ContainsFunc_sl_int_int ca_slices_ContainsFunc_sl_int_int
theorem ca_slices_IndexFunc_sl_int_int (l : List AV) : cArgs tab n_slices_IndexFunc_sl_int_int l = canonA [] l := rfl
attribute [go_sem] t_slices_IndexFunc_sl_int_int ca_slices_IndexFunc_sl_int_int
theorem ca_conf_Bytes_v1 (l : List AV) : cArgs tab n_conf_Bytes_v1 l = canonA [] l := rfl
attribute [go_sem] t_conf_Bytes_v1 ca_conf_Bytes_v1
theorem ca_conf_Of_v1 (l : List AV) : cArgs tab n_conf_Of_v1 l = canonA [] l := rfl
attribute [go_sem] t_conf_Of_v1 ca_conf_Of_v1
theorem ca_ref17_Same (l : List AV) : cArgs tab n_ref17_Same l = canonA [] l := rfl
attribute [go_sem] t_ref17_Same ca_ref17_Same
@[go_sem] theorem kt_law17_ConfStays_r (l : List AV) : keepT i_law17_ConfStays_r l = keepT [o_,o_,o_,o_,i_,o_,o_,o_,o_,o_,o_,o_,o_,o_,o_,o_,o_,o_,o_,o_,o_,o_,o_,o_,o_,o_,o_,o_,o_,o_,o_,o_,o_,o_,o_,o_,o_,o_,o_,o_,o_,o_,o_,o_,o_,o_,o_,o_,o_,o_,o_,o_,o_,o_,o_,o_,o_,o_,o_,o_,o_,o_,o_,o_,o_,o_,o_,o_,o_,o_,o_,o_,o_,o_,o_,o_,o_,o_,o_,o_,o_,o_,o_,o_,o_,o_,o_,o_,o_,o_,o_,o_,o_,o_,o_,o_] l := rfl
@[go_sem] theorem kt_law17_ConfStays_j1 (l : List AV) : keepT i_law17_ConfStays_j1 l = keepT [i_,i_,o_,o_,o_,i_,i_,i_,i_,o_,i_,o_,i_,i_,o_,o_,o_,o_,o_,o_,o_,o_,o_,o_,o_,o_,o_,o_,o_,o_,o_,o_,o_,o_,o_,o_,o_,o_,o_,o_,o_,o_,o_,o_,o_,o_,o_,o_,o_,o_,o_,o_,o_,o_,o_,o_,o_,o_,o_,o_,o_,o_,o_,o_,o_,o_,o_,o_,o_,o_,o_,o_,o_,o_,o_,o_,o_,o_,o_,o_,o_,o_,o_,o_,o_,o_,o_,o_,o_,o_,o_,o_,o_,o_,o_,o_] l := rfl
@[go_sem] theorem kt_law17_ConfStays_k0 (l : List AV) : keepT i_law17_ConfStays_k0 l = keepT [i_,i_,o_,o_,o_,i_,i_,i_,i_,o_,i_,o_,i_,i_,o_,o_,o_,o_,o_,o_,o_,o_,o_,o_,o_,o_,o_,o_,o_,o_,o_,o_,o_,o_,o_,o_,o_,o_,o_,o_,o_,o_,o_,o_,o_,o_,o_,o_,o_,o_,o_,o_,o_,o_,o_,o_,o_,o_,o_,o_,o_,o_,o_,o_,o_,o_,o_,o_,o_,o_,o_,o_,o_,o_,o_,o_,o_,o_,o_,o_,o_,o_,o_,o_,o_,o_,o_,o_,o_,o_,o_,o_,o_,o_,o_,o_] l := rfl
@[go_sem] theorem kt_law17_ConfStays_j0 (l : List AV) : keepT i_law17_ConfStays_j0 l = keepT [i_,i_,o_,o_,o_,i_,o_,i_,i_,o_,i_,o_,i_,o_,o_,o_,o_,o_,o_,o_,o_,o_,o_,o_,o_,o_,o_,o_,o_,o_,o_,o_,o_,o_,o_,o_,o_,o_,o_,o_,o_,o_,o_,o_,o_,o_,o_,o_,o_,o_,o_,o_,o_,o_,o_,o_,o_,o_,o_,o_,o_,o_,o_,o_,o_,o_,o_,o_,o_,o_,o_,o_,o_,o_,o_,o_,o_,o_,o_,o_,o_,o_,o_,o_,o_,o_,o_,o_,o_,o_,o_,o_,o_,o_,o_,o_] l := rfl
@[go_sem] theorem kt_law17_ConfStays_j3 (l : List AV) : keepT i_law17_ConfStays_j3 l = keepT [i_,i_,o_,o_,o_,i_,o_,i_,i_,o_,i_,o_,i_,o_,i_,o_,o_,o_,o_,o_,o_,o_,o_,o_,o_,o_,o_,o_,o_,o_,o_,o_,o_,o_,o_,o_,o_,o_,o_,o_,o_,o_,o_,o_,o_,o_,o_,o_,o_,o_,o_,o_,o_,o_,o_,o_,o_,o_,o_,o_,o_,o_,o_,o_,o_,o_,o_,o_,o_,o_,o_,o_,o_,o_,o_,o_,o_,o_,o_,o_,o_,o_,o_,o_,o_,o_,o_,o_,o_,o_,o_,o_,o_,o_,o_,o_] l := rfl
@[go_sem] theorem kt_law17_ConfStays_k1 (l : List AV) : keepT i_law17_ConfStays_k1 l = keepT [i_,i_,o_,o_,o_,i_,o_,i_,i_,o_,i_,o_,i_,o_,i_,o_,o_,o_,o_,o_,o_,o_,o_,o_,o_,o_,o_,o_,o_,o_,o_,o_,o_,o_,o_,o_,o_,o_,o_,o_,o_,o_,o_,o_,o_,o_,o_,o_,o_,o_,o_,o_,o_,o_,o_,o_,o_,o_,o_,o_,o_,o_,o_,o_,o_,o_,o_,o_,o_,o_,o_,o_,o_,o_,o_,o_,o_,o_,o_,o_,o_,o_,o_,o_,o_,o_,o_,o_,o_,o_,o_,o_,o_,o_,o_,o_] l := rfl
@[go_sem] theorem kt_law17_ConfStays_j2 (l : List AV) : keepT i_law17_ConfStays_j2 l = keepT [i_,i_,o_,o_,o_,i_,o_,o_,i_,o_,i_,o_,i_,o_,o_,o_,o_,o_,o_,o_,o_,o_,o_,o_,o_,o_,o_,o_,o_,o_,o_,o_,o_,o_,o_,o_,o_,o_,o_,o_,o_,o_,o_,o_,o_,o_,o_,o_,o_,o_,o_,o_,o_,o_,o_,o_,o_,o_,o_,o_,o_,o_,o_,o_,o_,o_,o_,o_,o_,o_,o_,o_,o_,o_,o_,o_,o_,o_,o_,o_,o_,o_,o_,o_,o_,o_,o_,o_,o_,o_,o_,o_,o_,o_,o_,o_] l := rfl
@[go_sem] theorem kt_law17_up_r (l : List AV) : keepT i_law17_up_r l = keepT [i_,o_,o_,o_,o_,o_,o_,o_,o_,o_,o_,o_,o_,o_,o_,o_,o_,o_,o_,o_,o_] l := rfl
@[go_sem] theorem kt_conf_Most_r (l : List AV) : keepT i_conf_Most_r l = keepT [o_,o_,o_,o_,i_,o_,o_,o_,o_,o_,o_,o_,o_,o_,o_,o_,o_,o_,o_,o_,o_,o_,o_,o_,o_,o_,o_,o_,o_] l := rfl
@[go_sem] theorem kt_conf_Most_j1 (l : List AV) : keepT i_conf_Most_j1 l = keepT [i_,i_,o_,o_,o_,i_,o_,o_,i_,i_,i_,o_,o_,o_,o_,o_,o_,o_,o_,o_,o_,o_,o_,o_,o_,o_,o_,o_,o_] l := rfl
@[go_sem] theorem kt_conf_Most_k0 (l : List AV) : keepT i_conf_Most_k0 l = keepT [i_,i_,o_,o_,o_,i_,o_,o_,i_,i_,i_,o_,o_,o_,o_,o_,o_,o_,o_,o_,o_,o_,o_,o_,o_,o_,o_,o_,o_] l := rfl
@[go_sem] theorem kt_conf_Most_j0 (l : List AV) : keepT i_conf_Most_j0 l = keepT [i_,o_,o_,o_,o_,i_,o_,o_,o_,o_,o_,o_,o_,o_,o_,o_,o_,o_,o_,o_,o_,o_,o_,o_,o_,o_,o_,o_,o_] l := rfl
@[go_sem] theorem kt_conf_Has_r (l : List AV) : keepT i_conf_Has_r l = keepT [o_,o_,o_,o_,i_,o_,o_,o_] l := rfl
@[go_sem] theorem kt_slices_Contains_sl_int_int_r (l : List AV) : keepT i_slices_Contains_sl_int_int_r l = keepT [o_,o_,o_,o_,i_,o_,o_,o_,o_] l := rfl
@[go_sem] theorem kt_slices_Index_sl_int_int_r (l : List AV) : keepT i_slices_Index_sl_int_int_r l = keepT [o_,o_,o_,o_,i_,o_,o_,o_,o_,o_,o_,o_,o_,o_,o_,o_,o_,o_,o_] l := rfl
@[go_sem] theorem kt_slices_Index_sl_int_int_j1 (l : List AV) : keepT i_slices_Index_sl_int_int_j1 l = keepT [i_,i_,o_,o_,o_,o_,o_,i_,i_,o_,o_,o_,o_,o_,o_,o_,o_,o_,o_] l := rfl
@[go_sem] theorem kt_slices_Index_sl_int_int_k0 (l : List AV) : keepT i_slices_Index_sl_int_int_k0 l = keepT [i_,i_,o_,o_,o_,o_,o_,i_,i_,o_,o_,o_,o_,o_,o_,o_,o_,o_,o_] l := rfl
@[go_sem] theorem kt_slices_Index_sl_int_int_j0 (l : List AV) : keepT i_slices_Index_sl_int_int_j0 l = keepT [o_,o_,o_,o_,o_,o_,o_,o_,o_,o_,o_,o_,o_,o_,o_,o_,o_,o_,o_] l := rfl
@[go_sem] theorem kt_conf_May_r (l : List AV) : keepT i_conf_May_r l = keepT [o_,o_,i_,o_,o_,o_,o_,o_,o_,o_,o_,o_,o_,o_,o_,o_,o_,o_,o_,o_,o_,o_,o_,o_,o_,o_,o_,o_,o_,o_,o_,o_,o_,o_,o_] l := rfl
@[go_sem] theorem kt_conf_May_j1 (l : List AV) : keepT i_conf_May_j1 l = keepT [i_,o_,o_,o_,o_,i_,i_,i_,o_,o_,o_,o_,o_,o_,o_,o_,o_,o_,o_,o_,o_,o_,o_,o_,o_,o_,o_,o_,o_,o_,o_,o_,o_,o_,o_] l := rfl
@[go_sem] theorem kt_conf_May_k0 (l : List AV) : keepT i_conf_May_k0 l = keepT [i_,o_,o_,o_,o_,i_,i_,i_,o_,o_,o_,o_,o_,o_,o_,o_,o_,o_,o_,o_,o_,o_,o_,o_,o_,o_,o_,o_,o_,o_,o_,o_,o_,o_,o_] l := rfl
@[go_sem] theorem kt_conf_May_j0 (l : List AV) : keepT i_conf_May_j0 l = keepT [i_,o_,o_,o_,o_,o_,o_,o_,o_,o_,o_,o_,o_,o_,o_,o_,o_,o_,o_,o_,o_,o_,o_,o_,o_,o_,o_,o_,o_,o_,o_,o_,o_,o_,o_] l := rfl
@[go_sem] theorem kt_conf_Step_r (l : List AV) : keepT i_conf_Step_r l = keepT [o_,o_,o_,o_,i_,o_,o_,o_,o_,o_,o_,o_,o_,o_,o_,o_,o_,o_,o_,o_,o_,o_,o_,o_,o_,o_,o_,o_,o_,o_,o_,o_] l := rfl
@[go_sem] theorem kt_conf_Step_1_r (l : List AV) : keepT i_conf_Step_1_r l = keepT [o_,o_,o_,i_,o_,o_,o_,o_] l := rfl
@[go_sem] theorem kt_slices_ContainsFunc_sl_int_int_r (l : List AV) : keepT i_slices_ContainsFunc_sl_int_int_r l = keepT [o_,o_,o_,o_,i_,o_,o_,o_,o_] l := rfl
@[go_sem] theorem kt_slices_IndexFunc_sl_int_int_r (l : List AV) : keepT i_slices_IndexFunc_sl_int_int_r l = keepT [o_,o_,o_,o_,i_,o_,o_,o_,o_,o_,o_,o_,o_,o_,o_,o_,o_,o_,o_] l := rfl
@[go_sem] theorem kt_slices_IndexFunc_sl_int_int_j1 (l : List AV) : keepT i_slices_IndexFunc_sl_int_int_j1 l = keepT [i_,i_,o_,o_,o_,o_,o_,i_,i_,o_,o_,o_,o_,o_,o_,o_,o_,o_,o_] l := rfl
@[go_sem] theorem kt_slices_IndexFunc_sl_int_int_k0 (l : List AV) : keepT i_slices_IndexFunc_sl_int_int_k0 l = keepT [i_,i_,o_,o_,o_,o_,o_,i_,i_,o_,o_,o_,o_,o_,o_,o_,o_,o_,o_] l := rfl
@[go_sem] theorem kt_slices_IndexFunc_sl_int_int_j0 (l : List AV) : keepT i_slices_IndexFunc_sl_int_int_j0 l = keepT [o_,o_,o_,o_,o_,o_,o_,o_,o_,o_,o_,o_,o_,o_,o_,o_,o_,o_,o_] l := rfl
@[go_sem] theorem kt_conf_Bytes_v1_r (l : List AV) : keepT i_conf_Bytes_v1_r l = keepT [o_,o_,i_,i_,o_,o_,o_,o_,o_,o_,o_,o_,o_,o_,o_,o_,o_,o_,o_,o_,o_,o_,o_,o_] l := rfl
@[go_sem] theorem kt_conf_Bytes_v1_j1 (l : List AV) : keepT i_conf_Bytes_v1_j1 l = keepT [o_,o_,o_,o_,i_,o_,o_,o_,o_,o_,o_,i_,i_,i_,o_,o_,o_,o_,o_,o_,o_,o_,o_,o_] l := rfl
@[go_sem] theorem kt_conf_Bytes_v1_k0 (l : List AV) : keepT i_conf_Bytes_v1_k0 l = keepT [o_,o_,o_,o_,i_,o_,o_,o_,o_,o_,o_,i_,i_,i_,o_,o_,o_,o_,o_,o_,o_,o_,o_,o_] l := rfl
@[go_sem] theorem kt_conf_Bytes_v1_j0 (l : List AV) : keepT i_conf_Bytes_v1_j0 l = keepT [o_,o_,o_,o_,i_,o_,o_,o_,o_,o_,o_,o_,o_,o_,o_,o_,o_,o_,o_,o_,o_,o_,o_,o_] l := rfl
@[go_sem] theorem kt_conf_Of_v1_r (l : List AV) : keepT i_conf_Of_v1_r l = keepT [o_,o_,i_,i_,o_,o_,o_,o_,o_,o_,o_,o_,o_,o_,o_,o_,o_,o_,o_,o_,o_,o_,o_,o_] l := rfl
@[go_sem] theorem kt_conf_Of_v1_j1 (l : List AV) : keepT i_conf_Of_v1_j1 l = keepT [o_,o_,o_,o_,i_,o_,o_,i_,i_,i_,o_,o_,o_,o_,o_,o_,o_,o_,o_,o_,o_,o_,o_,o_] l := rfl
@[go_sem] theorem kt_conf_Of_v1_k0 (l : List AV) : keepT i_conf_Of_v1_k0 l = keepT [o_,o_,o_,o_,i_,o_,o_,i_,i_,i_,o_,o_,o_,o_,o_,o_,o_,o_,o_,o_,o_,o_,o_,o_] l := rfl
@[go_sem] theorem kt_conf_Of_v1_j0 (l : List AV) : keepT i_conf_Of_v1_j0 l = keepT [o_,o_,o_,o_,i_,o_,o_,o_,o_,o_,o_,o_,o_,o_,o_,o_,o_,o_,o_,o_,o_,o_,o_,o_] l := rfl
@[go_sem] theorem kt_ref17_Same_r (l : List AV) : keepT i_ref17_Same_r l = keepT [o_,o_,o_,o_,i_,o_,o_,o_,o_,o_,o_,o_,o_,o_,o_,o_,o_,o_,o_,o_,o_,o_,o_,o_,o_,o_] l := rfl
@[go_sem] theorem kt_ref17_Same_j1 (l : List AV) : keepT i_ref17_Same_j1 l = keepT [i_,i_,o_,o_,o_,i_,o_,o_,o_,o_,o_,o_,o_,o_,o_,o_,o_,o_,o_,o_,o_,o_,o_,o_,o_,o_] l := rfl
@[go_sem] theorem kt_ref17_Same_k0 (l : List AV) : keepT i_ref17_Same_k0 l = keepT [i_,i_,o_,o_,o_,i_,o_,o_,o_,o_,o_,o_,o_,o_,o_,o_,o_,o_,o_,o_,o_,o_,o_,o_,o_,o_] l := rfl
@[go_sem] theorem kt_ref17_Same_j0 (l : List AV) : keepT i_ref17_Same_j0 l = keepT [o_,o_,o_,o_,o_,o_,o_,o_,o_,o_,o_,o_,o_,o_,o_,o_,o_,o_,o_,o_,o_,o_,o_,o_,o_,o_] l := rfl
noncomputable def L_law17_ConfStays_0 (st : St) : Option (Ex × St) := lp tab G0 6 i_law17_ConfStays_k0 i_law17_ConfStays_b0 st
theorem L_law17_ConfStays_0_eq (st : St) : L_law17_ConfStays_0 st = againL L_law17_ConfStays_0 6 i_law17_ConfStays_k0 (app tab G0 6 [] (ex tab G0 6 i_law17_ConfStays_b0 st)) := lp_eq tab G0 6 i_law17_ConfStays_k0 i_law17_ConfStays_b0 st
@[go_sem] theorem L_law17_ConfStays_0_in (K : List Fr) (st : St) : app tab G0 6 K (ex tab G0 6 (.loop i_law17_ConfStays_k0 i_law17_ConfStays_b0) st) = app tab G0 6 K (L_law17_ConfStays_0 (clean 6 i_law17_ConfStays_k0 st)) := rfl
noncomputable def L_law17_ConfStays_1 (st : St) : Option (Ex × St) := lp tab G0 6 i_law17_ConfStays_k1 i_law17_ConfStays_b1 st
theorem L_law17_ConfStays_1_eq (st : St) : L_law17_ConfStays_1 st = againL L_law17_ConfStays_1 6 i_law17_ConfStays_k1 (app tab G0 6 [] (ex tab G0 6 i_law17_ConfStays_b1 st)) := lp_eq tab G0 6 i_law17_ConfStays_k1 i_law17_ConfStays_b1 st
@[go_sem] theorem L_law17_ConfStays_1_in (K : List Fr) (st : St) : app tab G0 6 K (ex tab G0 6 (.loop i_law17_ConfStays_k1 i_law17_ConfStays_b1) st) = app tab G0 6 K (L_law17_ConfStays_1 (clean 6 i_law17_ConfStays_k1 st)) := rfl
noncomputable def L_conf_Most_0 (st : St) : Option (Ex × St) := lp tab G0 0 i_conf_Most_k0 i_conf_Most_b0 st
theorem L_conf_Most_0_eq (st : St) : L_conf_Most_0 st = againL L_conf_Most_0 0 i_conf_Most_k0 (app tab G0 0 [] (ex tab G0 0 i_conf_Most_b0 st)) := lp_eq tab G0 0 i_conf_Most_k0 i_conf_Most_b0 st
@[go_sem] theorem L_conf_Most_0_in (K : List Fr) (st : St) : app tab G0 0 K (ex tab G0 0 (.loop i_conf_Most_k0 i_conf_Most_b0) st) = app tab G0 0 K (L_conf_Most_0 (clean 0 i_conf_Most_k0 st)) := rfl
noncomputable def L_slices_Index_sl_int_int_0 (st : St) : Option (Ex × St) := lp tab G0 0 i_slices_Index_sl_int_int_k0 i_slices_Index_sl_int_int_b0 st
theorem L_slices_Index_sl_int_int_0_eq (st : St) : L_slices_Index_sl_int_int_0 st = againL L_slices_Index_sl_int_int_0 0 i_slices_Index_sl_int_int_k0 (app tab G0 0 [] (ex tab G0 0 i_slices_Index_sl_int_int_b0 st)) := lp_eq tab G0 0 i_slices_Index_sl_int_int_k0 i_slices_Index_sl_int_int_b0 st
@[go_sem] theorem L_slices_Index_sl_int_int_0_in (K : List Fr) (st : St) : app tab G0 0 K (ex tab G0 0 (.loop i_slices_Index_sl_int_int_k0 i_slices_Index_sl_int_int_b0) st) = app tab G0 0 K (L_slices_Index_sl_int_int_0 (clean 0 i_slices_Index_sl_int_int_k0 st)) := rfl
noncomputable def L_conf_May_0 (st : St) : Option (Ex × St) := lp tab G0 0 i_conf_May_k0 i_conf_May_b0 st
theorem L_conf_May_0_eq (st : St) : L_conf_May_0 st = againL L_conf_May_0 0 i_conf_May_k0 (app tab G0 0 [] (ex tab G0 0 i_conf_May_b0 st)) := lp_eq tab G0 0 i_conf_May_k0 i_conf_May_b0 st
@[go_sem] theorem L_conf_May_0_in (K : List Fr) (st : St) : app tab G0 0 K (ex tab G0 0 (.loop i_conf_May_k0 i_conf_May_b0) st) = app tab G0 0 K (L_conf_May_0 (clean 0 i_conf_May_k0 st)) := rfl
noncomputable def L_slices_IndexFunc_sl_int_int_0 (st : St) : Option (Ex × St) := lp tab G0 0 i_slices_IndexFunc_sl_int_int_k0 i_slices_IndexFunc_sl_int_int_b0 st
theorem L_slices_IndexFunc_sl_int_int_0_eq (st : St) : L_slices_IndexFunc_sl_int_int_0 st = againL L_slices_IndexFunc_sl_int_int_0 0 i_slices_IndexFunc_sl_int_int_k0 (app tab G0 0 [] (ex tab G0 0 i_slices_IndexFunc_sl_int_int_b0 st)) := lp_eq tab G0 0 i_slices_IndexFunc_sl_int_int_k0 i_slices_IndexFunc_sl_int_int_b0 st
@[go_sem] theorem L_slices_IndexFunc_sl_int_int_0_in (K : List Fr) (st : St) : app tab G0 0 K (ex tab G0 0 (.loop i_slices_IndexFunc_sl_int_int_k0 i_slices_IndexFunc_sl_int_int_b0) st) = app tab G0 0 K (L_slices_IndexFunc_sl_int_int_0 (clean 0 i_slices_IndexFunc_sl_int_int_k0 st)) := rfl
noncomputable def L_conf_Bytes_v1_0 (st : St) : Option (Ex × St) := lp tab G0 1 i_conf_Bytes_v1_k0 i_conf_Bytes_v1_b0 st
theorem L_conf_Bytes_v1_0_eq (st : St) : L_conf_Bytes_v1_0 st = againL L_conf_Bytes_v1_0 1 i_conf_Bytes_v1_k0 (app tab G0 1 [] (ex tab G0 1 i_conf_Bytes_v1_b0 st)) := lp_eq tab G0 1 i_conf_Bytes_v1_k0 i_conf_Bytes_v1_b0 st
@[go_sem] theorem L_conf_Bytes_v1_0_in (K : List Fr) (st : St) : app tab G0 1 K (ex tab G0 1 (.loop i_conf_Bytes_v1_k0 i_conf_Bytes_v1_b0) st) = app tab G0 1 K (L_conf_Bytes_v1_0 (clean 1 i_conf_Bytes_v1_k0 st)) := rfl
noncomputable def L_conf_Of_v1_0 (st : St) : Option (Ex × St) := lp tab G0 1 i_conf_Of_v1_k0 i_conf_Of_v1_b0 st
theorem L_conf_Of_v1_0_eq (st : St) : L_conf_Of_v1_0 st = againL L_conf_Of_v1_0 1 i_conf_Of_v1_k0 (app tab G0 1 [] (ex tab G0 1 i_conf_Of_v1_b0 st)) := lp_eq tab G0 1 i_conf_Of_v1_k0 i_conf_Of_v1_b0 st
@[go_sem] theorem L_conf_Of_v1_0_in (K : List Fr) (st : St) : app tab G0 1 K (ex tab G0 1 (.loop i_conf_Of_v1_k0 i_conf_Of_v1_b0) st) = app tab G0 1 K (L_conf_Of_v1_0 (clean 1 i_conf_Of_v1_k0 st)) := rfl
noncomputable def L_ref17_Same_0 (st : St) : Option (Ex × St) := lp tab G0 0 i_ref17_Same_k0 i_ref17_Same_b0 st
theorem L_ref17_Same_0_eq (st : St) : L_ref17_Same_0 st = againL L_ref17_Same_0 0 i_ref17_Same_k0 (app tab G0 0 [] (ex tab G0 0 i_ref17_Same_b0 st)) := lp_eq tab G0 0 i_ref17_Same_k0 i_ref17_Same_b0 st
@[go_sem] theorem L_ref17_Same_0_in (K : List Fr) (st : St) : app tab G0 0 K (ex tab G0 0 (.loop i_ref17_Same_k0 i_ref17_Same_b0) st) = app tab G0 0 K (L_ref17_Same_0 (clean 0 i_ref17_Same_k0 st)) := rfl
end Go.Proofs.Ytkfaahjcncpmhaa
