/- The IR of the seat's functions, printed by a program of this session. -/
import Derived.Test.YtfbipgidlecmkaaEvE
set_option linter.unusedVariables false
namespace Go.Proofs.Ytfbipgidlecmkaa
open Go.Ev
abbrev o_ : Bool := false
abbrev i_ : Bool := true
abbrev u_ : AV := .undef

abbrev ty_uint8 : Nat := 5
abbrev n_law02_CoderStays : Nat := 11
abbrev n_coder_Number : Nat := 18
abbrev n_coder_Reader_Number : Nat := 25
abbrev n_coder_Reader_Bytes : Nat := 35
abbrev n_coder_Reader_Byte : Nat := 38
abbrev n_coder_Reader_take : Nat := 47
abbrev n_coder_Bytes_v1 : Nat := 1000020
abbrev n_coder_NewReader_v1 : Nat := 1000024
abbrev n_slices_Clone_sl_byte_byte_v1 : Nat := 1000046
def i_law02_CoderStays_r : List Bool := [o_,o_,i_,o_,o_,o_,o_,o_,o_,o_,o_,o_,o_,o_,o_,o_,o_,o_,o_,o_,o_,o_,o_,o_,o_,o_,o_,o_,o_,o_,o_,o_,o_,o_,o_,o_,o_,o_,o_,o_,o_,o_,o_,o_,o_,o_,o_,o_,o_,o_,o_,o_,o_,o_,o_,o_,o_,o_,o_,o_,o_,o_,o_,o_,o_,o_,o_,o_,o_,o_,o_,o_,o_]
def i_law02_CoderStays_j1 : List Bool := [i_,o_,o_,i_,i_,i_,i_,o_,o_,o_,o_,o_,o_,o_,o_,o_,o_,o_,o_,o_,o_,o_,o_,o_,o_,o_,o_,o_,o_,o_,o_,o_,o_,o_,o_,o_,o_,o_,o_,o_,o_,o_,o_,o_,o_,o_,o_,o_,o_,o_,o_,o_,o_,o_,o_,o_,o_,o_,o_,o_,o_,o_,o_,o_,o_,o_,o_,o_,o_,o_,o_,o_,o_]
def i_law02_CoderStays_k0 : List Bool := [i_,o_,o_,i_,i_,i_,i_,o_,o_,o_,o_,o_,o_,o_,o_,o_,o_,o_,o_,o_,o_,o_,o_,o_,o_,o_,o_,o_,o_,o_,o_,o_,o_,o_,o_,o_,o_,o_,o_,o_,o_,o_,o_,o_,o_,o_,o_,o_,o_,o_,o_,o_,o_,o_,o_,o_,o_,o_,o_,o_,o_,o_,o_,o_,o_,o_,o_,o_,o_,o_,o_,o_,o_]
def i_law02_CoderStays_j0 : List Bool := [i_,o_,o_,o_,i_,i_,o_,o_,o_,o_,o_,o_,o_,o_,o_,o_,o_,o_,o_,o_,o_,o_,o_,o_,o_,o_,o_,o_,o_,o_,o_,o_,o_,o_,o_,o_,o_,o_,o_,o_,o_,o_,o_,o_,o_,o_,o_,o_,o_,o_,o_,o_,o_,o_,o_,o_,o_,o_,o_,o_,o_,o_,o_,o_,o_,o_,o_,o_,o_,o_,o_,o_,o_]
def i_law02_CoderStays_j3 : List Bool := [i_,o_,o_,o_,i_,i_,o_,i_,o_,o_,o_,o_,o_,o_,o_,o_,o_,o_,o_,o_,o_,o_,o_,o_,o_,o_,o_,o_,o_,o_,o_,o_,o_,o_,o_,o_,o_,o_,o_,o_,o_,o_,o_,o_,o_,o_,o_,o_,o_,o_,o_,o_,o_,o_,o_,o_,o_,o_,o_,o_,o_,o_,o_,o_,o_,o_,o_,o_,o_,o_,o_,o_,o_]
def i_law02_CoderStays_k1 : List Bool := [i_,o_,o_,o_,i_,i_,o_,i_,o_,o_,o_,o_,o_,o_,o_,o_,o_,o_,o_,o_,o_,o_,o_,o_,o_,o_,o_,o_,o_,o_,o_,o_,o_,o_,o_,o_,o_,o_,o_,o_,o_,o_,o_,o_,o_,o_,o_,o_,o_,o_,o_,o_,o_,o_,o_,o_,o_,o_,o_,o_,o_,o_,o_,o_,o_,o_,o_,o_,o_,o_,o_,o_,o_]
def i_law02_CoderStays_j2 : List Bool := [i_,o_,o_,o_,o_,i_,o_,o_,o_,o_,o_,o_,o_,o_,o_,o_,o_,o_,o_,o_,o_,o_,o_,o_,o_,o_,o_,o_,o_,o_,o_,o_,o_,o_,o_,o_,o_,o_,o_,o_,o_,o_,o_,o_,o_,o_,o_,o_,o_,o_,o_,o_,o_,o_,o_,o_,o_,o_,o_,o_,o_,o_,o_,o_,o_,o_,o_,o_,o_,o_,o_,o_,o_]
abbrev s_law02_CoderStays_R (t2 : AV) (h : Heap) : St := ⟨[u_,u_,t2, u_,u_,u_,u_,u_,u_,u_,u_,u_,u_,u_,u_,u_,u_,u_,u_,u_,u_,u_,u_,u_,u_,u_,u_,u_,u_,u_,u_,u_,u_,u_,u_,u_,u_,u_,u_,u_,u_,u_,u_,u_,u_,u_,u_,u_,u_,u_,u_,u_,u_,u_,u_,u_,u_,u_,u_,u_,u_,u_,u_,u_,u_,u_,u_,u_,u_,u_,u_,u_,u_], h⟩
abbrev s_law02_CoderStays_K0 (t0 t3 t4 t5 t6 : AV) (h : Heap) : St := ⟨[t0, u_,u_,t3, t4, t5, t6, u_,u_,u_,u_,u_,u_,u_,u_,u_,u_,u_,u_,u_,u_,u_,u_,u_,u_,u_,u_,u_,u_,u_,u_,u_,u_,u_,u_,u_,u_,u_,u_,u_,u_,u_,u_,u_,u_,u_,u_,u_,u_,u_,u_,u_,u_,u_,u_,u_,u_,u_,u_,u_,u_,u_,u_,u_,u_,u_,u_,u_,u_,u_,u_,u_,u_], h⟩
def i_law02_CoderStays_b0 : IR := (.seq (.seq (.reg [] [⟨(some 31), .mv (.t 6),none,[]⟩,⟨(some 32), .cn (.t 3),none,[]⟩,⟨(some 33), .len false (.t 32),none,[]⟩,⟨(some 34), .bin .plain .lss (.t 31) (.t 33),none,[]⟩]) (.cond (.t 34) .skip (.exit 0 i_law02_CoderStays_j0))) (.seq (.block 1 i_law02_CoderStays_j1 (.reg [] [⟨(some 37), .mv (.t 3),none,[]⟩,⟨(some 38), .mv (.t 6),none,[]⟩,⟨(some 39), .cn (.t 3),none,[]⟩,⟨(some 40), .mv (.t 6),none,[]⟩,⟨(some 41), .ia 1 (.t 39) (.t 40),none,[]⟩,⟨(some 42), .load false 1 (.t 41),none,[]⟩,⟨(some 43), .bin .plain .add (.t 42) (.k (.int .u8 1)),none,[]⟩,⟨(some 44), .ia 1 (.t 37) (.t 38),none,[]⟩,⟨none, .store 1 (.t 44) (.t 43),none,[]⟩])) (.reg [] [⟨(some 35), .mv (.t 6),none,[]⟩,⟨(some 36), .bin .plain .add (.t 35) (.k (.int .i64 1)),none,[]⟩,⟨(some 6), .mv (.t 36),none,[]⟩])))

abbrev s_law02_CoderStays_J0 (t0 t4 t5 : AV) (h : Heap) : St := ⟨[t0, u_,u_,u_,t4, t5, u_,u_,u_,u_,u_,u_,u_,u_,u_,u_,u_,u_,u_,u_,u_,u_,u_,u_,u_,u_,u_,u_,u_,u_,u_,u_,u_,u_,u_,u_,u_,u_,u_,u_,u_,u_,u_,u_,u_,u_,u_,u_,u_,u_,u_,u_,u_,u_,u_,u_,u_,u_,u_,u_,u_,u_,u_,u_,u_,u_,u_,u_,u_,u_,u_,u_,u_], h⟩
abbrev s_law02_CoderStays_K1 (t0 t4 t5 t7 : AV) (h : Heap) : St := ⟨[t0, u_,u_,u_,t4, t5, u_,t7, u_,u_,u_,u_,u_,u_,u_,u_,u_,u_,u_,u_,u_,u_,u_,u_,u_,u_,u_,u_,u_,u_,u_,u_,u_,u_,u_,u_,u_,u_,u_,u_,u_,u_,u_,u_,u_,u_,u_,u_,u_,u_,u_,u_,u_,u_,u_,u_,u_,u_,u_,u_,u_,u_,u_,u_,u_,u_,u_,u_,u_,u_,u_,u_,u_], h⟩
def i_law02_CoderStays_b1 : IR := (.seq (.seq (.reg [] [⟨(some 51), .mv (.t 7),none,[]⟩,⟨(some 52), .cn (.t 4),none,[]⟩,⟨(some 53), .len false (.t 52),none,[]⟩,⟨(some 54), .bin .plain .lss (.t 51) (.t 53),none,[]⟩]) (.cond (.t 54) .skip (.exit 2 i_law02_CoderStays_j2))) (.seq (.block 3 i_law02_CoderStays_j3 (.reg [] [⟨(some 57), .mv (.t 4),none,[]⟩,⟨(some 58), .mv (.t 7),none,[]⟩,⟨(some 59), .cn (.t 4),none,[]⟩,⟨(some 60), .mv (.t 7),none,[]⟩,⟨(some 61), .ia 1 (.t 59) (.t 60),none,[]⟩,⟨(some 62), .load false 1 (.t 61),none,[]⟩,⟨(some 63), .bin .plain .add (.t 62) (.k (.int .u8 1)),none,[]⟩,⟨(some 64), .ia 1 (.t 57) (.t 58),none,[]⟩,⟨none, .store 1 (.t 64) (.t 63),none,[]⟩])) (.reg [] [⟨(some 55), .mv (.t 7),none,[]⟩,⟨(some 56), .bin .plain .add (.t 55) (.k (.int .i64 1)),none,[]⟩,⟨(some 7), .mv (.t 56),none,[]⟩])))

abbrev s_law02_CoderStays_J2 (t0 t5 : AV) (h : Heap) : St := ⟨[t0, u_,u_,u_,u_,t5, u_,u_,u_,u_,u_,u_,u_,u_,u_,u_,u_,u_,u_,u_,u_,u_,u_,u_,u_,u_,u_,u_,u_,u_,u_,u_,u_,u_,u_,u_,u_,u_,u_,u_,u_,u_,u_,u_,u_,u_,u_,u_,u_,u_,u_,u_,u_,u_,u_,u_,u_,u_,u_,u_,u_,u_,u_,u_,u_,u_,u_,u_,u_,u_,u_,u_,u_], h⟩
/-- heartwood/heartwoodlaw02.CoderStays -/
def i_law02_CoderStays : Ev.Fn := ⟨1, 73, 4, (.seq (.reg [] [⟨(some 2), .mv (.k (.bool false)),none,[]⟩]) (.seq (.reg [] [⟨(some 8), .lit 0 ty_uint8 1 0 [(.int .u8 0)] [],none,[]⟩,⟨(some 9), .cn (.t 0),none,[]⟩,⟨(some 10), .app 0 ty_uint8 1 1 (.t 8) (.t 9),none,[]⟩,⟨(some 3), .mv (.t 10),none,[]⟩]) (.seq (.reg [] [⟨(some 11), .mv (.t 3),none,[]⟩,⟨(some 12), .call n_coder_Bytes_v1 [(.t 11)] [1],none,[]⟩,⟨(some 4), .mv (.t 12),none,[]⟩]) (.seq (.reg [] [⟨(some 13), .mv (.t 4),none,[]⟩,⟨(some 14), .call n_coder_NewReader_v1 [(.t 13)] [2],none,[]⟩,⟨(some 5), .mv (.t 14),none,[]⟩]) (.seq (.seq (.reg [] [⟨(some 15), .mv (.t 5),none,[]⟩,⟨(some 16), .bin .ptr .eql (.t 15) (.k (.pointer none)),none,[]⟩,⟨(some 17), .mv (.t 16),none,[]⟩,⟨(some 18), .cn (.t 3), (some (17, false)), []⟩,⟨(some 19), .b2s (.t 18), (some (17, false)), []⟩,⟨(some 20), .cn (.t 0), (some (17, false)), []⟩,⟨(some 21), .b2s (.t 20), (some (17, false)), []⟩,⟨(some 22), .bin .plain .neq (.t 19) (.t 21), (some (17, false)), []⟩,⟨(some 23), .pick (.t 17) (.k (.bool true)) (.t 22),none,[]⟩,⟨(some 24), .mv (.t 23),none,[]⟩,⟨(some 25), .cn (.t 4), (some (24, false)), []⟩,⟨(some 26), .len false (.t 25), (some (24, false)), []⟩,⟨(some 27), .cn (.t 0), (some (24, false)), []⟩,⟨(some 28), .len false (.t 27), (some (24, false)), []⟩,⟨(some 29), .bin .plain .leq (.t 26) (.t 28), (some (24, false)), []⟩,⟨(some 30), .pick (.t 24) (.k (.bool true)) (.t 29),none,[]⟩]) (.cond (.t 30) (.seq (.reg [] [⟨(some 2), .mv (.k (.bool false)),none,[]⟩]) (.ret i_law02_CoderStays_r)) .skip)) (.seq (.seq (.reg [] [⟨(some 6), .mv (.k (.int .i64 0)),none,[]⟩]) (.block 0 i_law02_CoderStays_j0 (.loop i_law02_CoderStays_k0 i_law02_CoderStays_b0))) (.seq (.seq (.reg [(1, 4)] [⟨(some 45), .mv (.t 0),none,[]⟩,⟨(some 46), .call n_coder_Bytes_v1 [(.t 45)] [3],none,[]⟩,⟨(some 47), .b2s (.t 46),none,[]⟩,⟨(some 48), .cn (.t 4),none,[]⟩,⟨(some 49), .b2s (.t 48),none,[]⟩,⟨(some 50), .bin .plain .neq (.t 47) (.t 49),none,[]⟩]) (.cond (.t 50) (.seq (.reg [] [⟨(some 2), .mv (.k (.bool false)),none,[]⟩]) (.ret i_law02_CoderStays_r)) .skip)) (.seq (.seq (.reg [] [⟨(some 7), .mv (.k (.int .i64 0)),none,[]⟩]) (.block 2 i_law02_CoderStays_j2 (.loop i_law02_CoderStays_k1 i_law02_CoderStays_b1))) (.seq (.reg [(3, 6)] [⟨(some 65), .mv (.t 5),none,[]⟩,⟨(some 66), .cn (.t 0),none,[]⟩,⟨(some 67), .len false (.t 66),none,[]⟩,⟨(some 68), .call n_coder_Reader_Bytes [(.t 65), (.t 67)] [],none,[]⟩,⟨(some 69), .b2s (.t 68),none,[]⟩,⟨(some 70), .cn (.t 0),none,[]⟩,⟨(some 71), .b2s (.t 70),none,[]⟩,⟨(some 72), .bin .plain .eql (.t 69) (.t 71),none,[]⟩,⟨(some 2), .mv (.t 72),none,[]⟩]) (.ret i_law02_CoderStays_r)))))))))),
 [.tmp 2], [], false, [true]⟩

def i_coder_Bytes_v1_r : List Bool := [o_,o_,i_,o_,o_,o_,o_,o_,o_]
/-- heartwood/coder.Bytes -/
def i_coder_Bytes_v1 : Ev.Fn := ⟨1, 9, 2, (.seq (.reg [] [⟨(some 2), .mv (.k (.slice none 0 0)),none,[]⟩]) (.seq (.reg [] [⟨(some 3), .cn (.t 0),none,[]⟩,⟨(some 4), .len false (.t 3),none,[]⟩,⟨(some 5), .conv .u64 (.t 4),none,[]⟩,⟨(some 6), .qcall n_coder_Number [(.t 5)] [0],none,[]⟩,⟨(some 7), .cn (.t 0),none,[]⟩,⟨(some 8), .app 1 ty_uint8 1 1 (.t 6) (.t 7),none,[]⟩,⟨(some 2), .mv (.t 8),none,[]⟩]) (.ret i_coder_Bytes_v1_r))),
 [.tmp 2], [true], false, [true]⟩

def i_coder_Number_r : List Bool := [o_,o_,i_,o_,o_,o_,o_,o_,o_,o_,o_,o_,o_,o_,o_,o_,o_,o_,o_,o_,o_,o_,o_,o_,o_,o_,o_,o_,o_,o_,o_,o_,o_,o_,o_,o_,o_,o_,o_,o_,o_,o_,o_]
def i_coder_Number_j1 : List Bool := [i_,o_,o_,i_,o_,o_,o_,o_,o_,o_,o_,o_,o_,o_,o_,o_,o_,o_,o_,o_,o_,o_,o_,o_,o_,o_,o_,o_,o_,o_,o_,o_,o_,o_,o_,o_,o_,o_,o_,o_,o_,o_,o_]
def i_coder_Number_k0 : List Bool := [i_,o_,o_,i_,o_,o_,o_,o_,o_,o_,o_,o_,o_,o_,o_,o_,o_,o_,o_,o_,o_,o_,o_,o_,o_,o_,o_,o_,o_,o_,o_,o_,o_,o_,o_,o_,o_,o_,o_,o_,o_,o_,o_]
def i_coder_Number_j0 : List Bool := [i_,o_,o_,i_,o_,o_,o_,o_,o_,o_,o_,o_,o_,o_,o_,o_,o_,o_,o_,o_,o_,o_,o_,o_,o_,o_,o_,o_,o_,o_,o_,o_,o_,o_,o_,o_,o_,o_,o_,o_,o_,o_,o_]
def i_coder_Number_j3 : List Bool := [i_,o_,o_,i_,i_,o_,o_,o_,o_,o_,o_,o_,o_,o_,o_,o_,o_,o_,o_,o_,o_,o_,o_,o_,o_,o_,i_,i_,o_,o_,o_,o_,o_,o_,o_,o_,o_,o_,o_,o_,o_,o_,o_]
def i_coder_Number_k1 : List Bool := [i_,o_,o_,i_,i_,o_,o_,o_,o_,o_,o_,o_,o_,o_,o_,o_,o_,o_,o_,o_,o_,o_,o_,o_,o_,o_,i_,i_,o_,o_,o_,o_,o_,o_,o_,o_,o_,o_,o_,o_,o_,o_,o_]
def i_coder_Number_j2 : List Bool := [o_,o_,o_,o_,i_,o_,o_,o_,o_,o_,o_,o_,o_,o_,o_,o_,o_,o_,o_,o_,o_,o_,o_,o_,o_,o_,o_,o_,o_,o_,o_,o_,o_,o_,o_,o_,o_,o_,o_,o_,o_,o_,o_]
abbrev s_coder_Number_R (t2 : AV) (h : Heap) : St := ⟨[u_,u_,t2, u_,u_,u_,u_,u_,u_,u_,u_,u_,u_,u_,u_,u_,u_,u_,u_,u_,u_,u_,u_,u_,u_,u_,u_,u_,u_,u_,u_,u_,u_,u_,u_,u_,u_,u_,u_,u_,u_,u_,u_], h⟩
abbrev s_coder_Number_K0 (t0 t3 : AV) (h : Heap) : St := ⟨[t0, u_,u_,t3, u_,u_,u_,u_,u_,u_,u_,u_,u_,u_,u_,u_,u_,u_,u_,u_,u_,u_,u_,u_,u_,u_,u_,u_,u_,u_,u_,u_,u_,u_,u_,u_,u_,u_,u_,u_,u_,u_,u_], h⟩
def i_coder_Number_b0 : IR := (.seq (.seq (.reg [] [⟨(some 11), .mv (.t 3),none,[]⟩,⟨(some 12), .bin .plain .lss (.t 11) (.k (.int .i64 8)),none,[]⟩,⟨(some 13), .mv (.t 12),none,[]⟩,⟨(some 14), .mv (.t 0), (some (13, true)), []⟩,⟨(some 15), .mv (.t 3), (some (13, true)), []⟩,⟨(some 16), .bin .plain .mul (.k (.int .i64 8)) (.t 15), (some (13, true)), []⟩,⟨(some 17), .bin .plain .shr (.t 14) (.t 16), (some (13, true)), []⟩,⟨(some 18), .bin .plain .gtr (.t 17) (.k (.int .u64 0)), (some (13, true)), []⟩,⟨(some 19), .pick (.t 13) (.t 18) (.k (.bool false)),none,[]⟩]) (.cond (.t 19) .skip (.exit 0 i_coder_Number_j0))) (.block 1 i_coder_Number_j1 (.reg [] [⟨(some 20), .mv (.t 3),none,[]⟩,⟨(some 21), .bin .plain .add (.t 20) (.k (.int .i64 1)),none,[]⟩,⟨(some 3), .mv (.t 21),none,[]⟩])))

abbrev s_coder_Number_J0 (t0 t3 : AV) (h : Heap) : St := ⟨[t0, u_,u_,t3, u_,u_,u_,u_,u_,u_,u_,u_,u_,u_,u_,u_,u_,u_,u_,u_,u_,u_,u_,u_,u_,u_,u_,u_,u_,u_,u_,u_,u_,u_,u_,u_,u_,u_,u_,u_,u_,u_,u_], h⟩
abbrev s_coder_Number_K1 (t0 t3 t4 t26 t27 : AV) (h : Heap) : St := ⟨[t0, u_,u_,t3, t4, u_,u_,u_,u_,u_,u_,u_,u_,u_,u_,u_,u_,u_,u_,u_,u_,u_,u_,u_,u_,u_,t26, t27, u_,u_,u_,u_,u_,u_,u_,u_,u_,u_,u_,u_,u_,u_,u_], h⟩
def i_coder_Number_b1 : IR := (.seq (.reg [] [⟨(some 28), .bin .plain .lss (.t 27) (.t 26),none,[]⟩]) (.seq (.cond (.t 28) .skip (.exit 2 i_coder_Number_j2)) (.seq (.block 3 i_coder_Number_j3 (.seq (.reg [] [⟨(some 29), .mv (.t 27),none,[]⟩,⟨(some 5), .mv (.t 29),none,[]⟩]) (.reg [] [⟨(some 30), .mv (.t 4),none,[]⟩,⟨(some 31), .mv (.t 0),none,[]⟩,⟨(some 32), .mv (.t 3),none,[]⟩,⟨(some 33), .bin .plain .sub (.t 32) (.k (.int .i64 1)),none,[]⟩,⟨(some 34), .mv (.t 5),none,[]⟩,⟨(some 35), .bin .plain .sub (.t 33) (.t 34),none,[]⟩,⟨(some 36), .bin .plain .mul (.k (.int .i64 8)) (.t 35),none,[]⟩,⟨(some 37), .bin .plain .shr (.t 31) (.t 36),none,[]⟩,⟨(some 38), .conv .u8 (.t 37),none,[]⟩,⟨(some 39), .litd 1 1 [(.int .u8 0)] [(0, (.t 38))],none,[]⟩,⟨(some 40), .app 0 ty_uint8 1 1 (.t 30) (.t 39),none,[]⟩,⟨(some 4), .mv (.t 40),none,[]⟩]))) (.reg [] [⟨(some 41), .bin .plain .add (.t 27) (.k (.int .i64 1)),none,[]⟩,⟨(some 27), .mv (.t 41),none,[]⟩]))))

abbrev s_coder_Number_J2 (t4 : AV) (h : Heap) : St := ⟨[u_,u_,u_,u_,t4, u_,u_,u_,u_,u_,u_,u_,u_,u_,u_,u_,u_,u_,u_,u_,u_,u_,u_,u_,u_,u_,u_,u_,u_,u_,u_,u_,u_,u_,u_,u_,u_,u_,u_,u_,u_,u_,u_], h⟩
/-- heartwood/coder.Number -/
def i_coder_Number : Ev.Fn := ⟨1, 43, 1, (.seq (.reg [] [⟨(some 2), .mv (.k (.slice none 0 0)),none,[]⟩]) (.seq (.seq (.reg [] [⟨(some 6), .mv (.t 0),none,[]⟩,⟨(some 7), .bin .plain .leq (.t 6) (.k (.int .u64 247)),none,[]⟩]) (.cond (.t 7) (.seq (.reg [] [⟨(some 8), .mv (.t 0),none,[]⟩,⟨(some 9), .conv .u8 (.t 8),none,[]⟩,⟨(some 10), .lit 0 ty_uint8 1 1 [(.int .u8 0)] [(0, (.t 9))],none,[]⟩,⟨(some 2), .mv (.t 10),none,[]⟩]) (.ret i_coder_Number_r)) .skip)) (.seq (.reg [] [⟨(some 3), .mv (.k (.int .i64 1)),none,[]⟩]) (.seq (.block 0 i_coder_Number_j0 (.loop i_coder_Number_k0 i_coder_Number_b0)) (.seq (.reg [] [⟨(some 22), .mv (.t 3),none,[]⟩,⟨(some 23), .bin .plain .add (.k (.int .i64 247)) (.t 22),none,[]⟩,⟨(some 24), .conv .u8 (.t 23),none,[]⟩,⟨(some 25), .lit 0 ty_uint8 1 1 [(.int .u8 0)] [(0, (.t 24))],none,[]⟩,⟨(some 4), .mv (.t 25),none,[]⟩]) (.seq (.seq (.reg [] [⟨(some 26), .mv (.t 3),none,[]⟩,⟨(some 27), .mv (.k (.int .i64 0)),none,[]⟩]) (.block 2 i_coder_Number_j2 (.loop i_coder_Number_k1 i_coder_Number_b1))) (.seq (.reg [] [⟨(some 42), .mv (.t 4),none,[]⟩,⟨(some 2), .mv (.t 42),none,[]⟩]) (.ret i_coder_Number_r)))))))),
 [.tmp 2], [true], false, []⟩

def i_coder_NewReader_v1_r : List Bool := [o_,o_,i_,o_,o_,o_,o_]
/-- heartwood/coder.NewReader -/
def i_coder_NewReader_v1 : Ev.Fn := ⟨1, 7, 1, (.seq (.reg [] [⟨(some 2), .mv (.k (.pointer none)),none,[]⟩]) (.seq (.reg [] [⟨(some 3), .mv (.t 0),none,[]⟩,⟨(some 4), .call n_slices_Clone_sl_byte_byte_v1 [(.t 3)] [],none,[]⟩,⟨(some 5), .build [(.slice none 0 0), (.bool false)] [(0, 1, (.t 4))],none,[]⟩,⟨(some 6), .box 0 2 (.t 5),none,[]⟩,⟨(some 2), .mv (.t 6),none,[]⟩]) (.ret i_coder_NewReader_v1_r))),
 [.tmp 2], [], false, [true]⟩

def i_slices_Clone_sl_byte_byte_v1_r : List Bool := [o_,o_,i_,o_,o_,o_,o_,o_]
/-- slices.Clone[[]byte,byte] -/
def i_slices_Clone_sl_byte_byte_v1 : Ev.Fn := ⟨1, 8, 1, (.seq (.reg [] [⟨(some 2), .cn (.k (.slice none 0 0)),none,[]⟩]) (.seq (.seq (.reg [] [⟨(some 3), .mv (.t 0),none,[]⟩,⟨(some 4), .bin .slice .eql (.t 3) (.k (.slice none 0 0)),none,[]⟩]) (.cond (.t 4) (.seq (.reg [] [⟨(some 2), .cn (.k (.slice none 0 0)),none,[]⟩]) (.ret i_slices_Clone_sl_byte_byte_v1_r)) .skip)) (.seq (.reg [] [⟨(some 5), .lit 0 ty_uint8 1 0 [(.int .u8 0)] [],none,[]⟩,⟨(some 6), .cn (.t 0),none,[]⟩,⟨(some 7), .app 0 ty_uint8 1 1 (.t 5) (.t 6),none,[]⟩,⟨(some 2), .cn (.t 7), none, [7]⟩]) (.ret i_slices_Clone_sl_byte_byte_v1_r)))),
 [.tmp 2], [], true, [true]⟩

def i_coder_Reader_Bytes_r : List Bool := [o_,o_,o_,o_,i_,o_,o_,o_,o_,o_,o_,o_,o_,o_,o_,o_,o_,o_,o_,o_,o_,o_,o_,o_,o_,o_,o_,o_,o_,o_,o_,o_,o_,o_,o_,o_,o_,o_,o_]
/-- (*heartwood/coder.Reader).Bytes -/
def i_coder_Reader_Bytes : Ev.Fn := ⟨2, 39, 0, (.seq (.reg [] [⟨(some 4), .cn (.k (.slice none 0 0)),none,[]⟩]) (.seq (.reg [] [⟨(some 6), .mv (.t 0),none,[]⟩,⟨(some 7), .call n_coder_Reader_Number [(.t 6)] [],none,[]⟩,⟨(some 5), .mv (.t 7),none,[]⟩]) (.seq (.seq (.reg [] [⟨(some 8), .mv (.t 0),none,[]⟩,⟨(some 9), .nilc (.t 8),none,[]⟩,⟨(some 10), .fa 1 (.t 9),none,[]⟩,⟨(some 11), .load false 1 (.t 10),none,[]⟩,⟨(some 12), .mv (.t 11),none,[]⟩,⟨(some 13), .mv (.t 1), (some (12, false)), []⟩,⟨(some 14), .bin .plain .lss (.t 13) (.k (.int .i64 0)), (some (12, false)), []⟩,⟨(some 15), .pick (.t 12) (.k (.bool true)) (.t 14),none,[]⟩,⟨(some 16), .mv (.t 15),none,[]⟩,⟨(some 17), .mv (.t 5), (some (16, false)), []⟩,⟨(some 18), .mv (.t 1), (some (16, false)), []⟩,⟨(some 19), .conv .u64 (.t 18), (some (16, false)), []⟩,⟨(some 20), .bin .plain .gtr (.t 17) (.t 19), (some (16, false)), []⟩,⟨(some 21), .pick (.t 16) (.k (.bool true)) (.t 20),none,[]⟩,⟨(some 22), .mv (.t 21),none,[]⟩,⟨(some 23), .mv (.t 5), (some (22, false)), []⟩,⟨(some 24), .mv (.t 0), (some (22, false)), []⟩,⟨(some 25), .nilc (.t 24), (some (22, false)), []⟩,⟨(some 26), .fa 0 (.t 25), (some (22, false)), []⟩,⟨(some 27), .load false 1 (.t 26), (some (22, false)), []⟩,⟨(some 28), .len false (.t 27), (some (22, false)), []⟩,⟨(some 29), .conv .u64 (.t 28), (some (22, false)), []⟩,⟨(some 30), .bin .plain .gtr (.t 23) (.t 29), (some (22, false)), []⟩,⟨(some 31), .pick (.t 22) (.k (.bool true)) (.t 30),none,[]⟩]) (.cond (.t 31) (.seq (.reg [] [⟨(some 32), .mv (.t 0),none,[]⟩,⟨(some 33), .nilc (.t 32),none,[]⟩,⟨(some 34), .fa 1 (.t 33),none,[]⟩,⟨none, .store 1 (.t 34) (.k (.bool true)),none,[]⟩]) (.seq (.reg [] [⟨(some 4), .cn (.k (.slice none 0 0)),none,[]⟩]) (.ret i_coder_Reader_Bytes_r))) .skip)) (.seq (.reg [] [⟨(some 35), .mv (.t 0),none,[]⟩,⟨(some 36), .mv (.t 5),none,[]⟩,⟨(some 37), .conv .i64 (.t 36),none,[]⟩,⟨(some 38), .call n_coder_Reader_take [(.t 35), (.t 37)] [],none,[]⟩,⟨(some 4), .cn (.t 38),none,[]⟩]) (.ret i_coder_Reader_Bytes_r))))),
 [.tmp 4], [], false, []⟩

def i_coder_Reader_Number_r : List Bool := [o_,o_,i_,o_,o_,o_,o_,o_,o_,o_,o_,o_,o_,o_,o_,o_,o_,o_,o_,o_,o_,o_,o_,o_,o_,o_,o_,o_,o_,o_,o_,o_,o_,o_,o_,o_,o_,o_,o_,o_,o_,o_,o_,o_,o_,o_,o_,o_]
def i_coder_Reader_Number_j1 : List Bool := [i_,o_,o_,o_,i_,i_,o_,o_,o_,o_,o_,o_,o_,o_,o_,o_,o_,o_,o_,i_,i_,i_,o_,o_,o_,o_,o_,o_,o_,o_,o_,o_,o_,o_,o_,o_,o_,o_,o_,o_,o_,o_,o_,o_,o_,o_,o_,o_]
def i_coder_Reader_Number_k0 : List Bool := [i_,o_,o_,o_,i_,i_,o_,o_,o_,o_,o_,o_,o_,o_,o_,o_,o_,o_,o_,i_,i_,i_,o_,o_,o_,o_,o_,o_,o_,o_,o_,o_,o_,o_,o_,o_,o_,o_,o_,o_,o_,o_,o_,o_,o_,o_,o_,o_]
def i_coder_Reader_Number_j0 : List Bool := [i_,o_,o_,o_,i_,i_,o_,o_,o_,o_,o_,o_,o_,o_,o_,o_,o_,o_,o_,o_,o_,o_,o_,o_,o_,o_,o_,o_,o_,o_,o_,o_,o_,o_,o_,o_,o_,o_,o_,o_,o_,o_,o_,o_,o_,o_,o_,o_]
abbrev s_coder_Reader_Number_R (t2 : AV) (h : Heap) : St := ⟨[u_,u_,t2, u_,u_,u_,u_,u_,u_,u_,u_,u_,u_,u_,u_,u_,u_,u_,u_,u_,u_,u_,u_,u_,u_,u_,u_,u_,u_,u_,u_,u_,u_,u_,u_,u_,u_,u_,u_,u_,u_,u_,u_,u_,u_,u_,u_,u_], h⟩
abbrev s_coder_Reader_Number_K0 (t0 t4 t5 t19 t20 t21 : AV) (h : Heap) : St := ⟨[t0, u_,u_,u_,t4, t5, u_,u_,u_,u_,u_,u_,u_,u_,u_,u_,u_,u_,u_,t19, t20, t21, u_,u_,u_,u_,u_,u_,u_,u_,u_,u_,u_,u_,u_,u_,u_,u_,u_,u_,u_,u_,u_,u_,u_,u_,u_,u_], h⟩
def i_coder_Reader_Number_b0 : IR := (.seq (.reg [] [⟨(some 22), .bin .plain .lss (.t 21) (.t 20),none,[]⟩]) (.seq (.cond (.t 22) .skip (.exit 0 i_coder_Reader_Number_j0)) (.seq (.block 1 i_coder_Reader_Number_j1 (.seq (.reg [] [⟨(some 23), .ia 1 (.t 19) (.t 21),none,[]⟩,⟨(some 24), .load false 1 (.t 23),none,[]⟩,⟨(some 7), .mv (.t 24),none,[]⟩]) (.reg [] [⟨(some 25), .mv (.t 5),none,[]⟩,⟨(some 26), .bin .plain .shl (.t 25) (.k (.int .u64 8)),none,[]⟩,⟨(some 27), .mv (.t 7),none,[]⟩,⟨(some 28), .conv .u64 (.t 27),none,[]⟩,⟨(some 29), .bin .plain .or (.t 26) (.t 28),none,[]⟩,⟨(some 5), .mv (.t 29),none,[]⟩]))) (.reg [] [⟨(some 30), .bin .plain .add (.t 21) (.k (.int .i64 1)),none,[]⟩,⟨(some 21), .mv (.t 30),none,[]⟩]))))

abbrev s_coder_Reader_Number_J0 (t0 t4 t5 : AV) (h : Heap) : St := ⟨[t0, u_,u_,u_,t4, t5, u_,u_,u_,u_,u_,u_,u_,u_,u_,u_,u_,u_,u_,u_,u_,u_,u_,u_,u_,u_,u_,u_,u_,u_,u_,u_,u_,u_,u_,u_,u_,u_,u_,u_,u_,u_,u_,u_,u_,u_,u_,u_], h⟩
/-- (*heartwood/coder.Reader).Number -/
def i_coder_Reader_Number : Ev.Fn := ⟨1, 48, 0, (.seq (.reg [] [⟨(some 2), .mv (.k (.int .u64 0)),none,[]⟩]) (.seq (.reg [] [⟨(some 8), .mv (.t 0),none,[]⟩,⟨(some 9), .call n_coder_Reader_Byte [(.t 8)] [],none,[]⟩,⟨(some 3), .mv (.t 9),none,[]⟩]) (.seq (.seq (.reg [] [⟨(some 10), .mv (.t 3),none,[]⟩,⟨(some 11), .bin .plain .leq (.t 10) (.k (.int .u8 247)),none,[]⟩]) (.cond (.t 11) (.seq (.reg [] [⟨(some 12), .mv (.t 3),none,[]⟩,⟨(some 13), .conv .u64 (.t 12),none,[]⟩,⟨(some 2), .mv (.t 13),none,[]⟩]) (.ret i_coder_Reader_Number_r)) .skip)) (.seq (.reg [] [⟨(some 14), .mv (.t 0),none,[]⟩,⟨(some 15), .mv (.t 3),none,[]⟩,⟨(some 16), .conv .i64 (.t 15),none,[]⟩,⟨(some 17), .bin .plain .sub (.t 16) (.k (.int .i64 247)),none,[]⟩,⟨(some 18), .call n_coder_Reader_take [(.t 14), (.t 17)] [],none,[]⟩,⟨(some 4), .cn (.t 18),none,[]⟩]) (.seq (.reg [] [⟨(some 5), .mv (.k (.int .u64 0)),none,[]⟩]) (.seq (.seq (.reg [] [⟨(some 19), .cn (.t 4),none,[]⟩,⟨(some 20), .len false (.t 19),none,[]⟩,⟨(some 21), .mv (.k (.int .i64 0)),none,[]⟩]) (.block 0 i_coder_Reader_Number_j0 (.loop i_coder_Reader_Number_k0 i_coder_Reader_Number_b0))) (.seq (.seq (.reg [] [⟨(some 31), .cn (.t 4),none,[]⟩,⟨(some 32), .len false (.t 31),none,[]⟩,⟨(some 33), .bin .plain .eql (.t 32) (.k (.int .i64 0)),none,[]⟩,⟨(some 34), .mv (.t 33),none,[]⟩,⟨(some 35), .cn (.t 4), (some (34, false)), []⟩,⟨(some 36), .ia 1 (.t 35) (.k (.int .i64 0)), (some (34, false)), []⟩,⟨(some 37), .load false 1 (.t 36), (some (34, false)), []⟩,⟨(some 38), .bin .plain .eql (.t 37) (.k (.int .u8 0)), (some (34, false)), []⟩,⟨(some 39), .pick (.t 34) (.k (.bool true)) (.t 38),none,[]⟩,⟨(some 40), .mv (.t 39),none,[]⟩,⟨(some 41), .mv (.t 5), (some (40, false)), []⟩,⟨(some 42), .bin .plain .leq (.t 41) (.k (.int .u64 247)), (some (40, false)), []⟩,⟨(some 43), .pick (.t 40) (.k (.bool true)) (.t 42),none,[]⟩]) (.cond (.t 43) (.seq (.reg [] [⟨(some 44), .mv (.t 0),none,[]⟩,⟨(some 45), .nilc (.t 44),none,[]⟩,⟨(some 46), .fa 1 (.t 45),none,[]⟩,⟨none, .store 1 (.t 46) (.k (.bool true)),none,[]⟩]) (.seq (.reg [] [⟨(some 2), .mv (.k (.int .u64 0)),none,[]⟩]) (.ret i_coder_Reader_Number_r))) .skip)) (.seq (.reg [] [⟨(some 47), .mv (.t 5),none,[]⟩,⟨(some 2), .mv (.t 47),none,[]⟩]) (.ret i_coder_Reader_Number_r))))))))),
 [.tmp 2], [], false, []⟩

def i_coder_Reader_Byte_r : List Bool := [o_,o_,i_,o_,o_,o_,o_,o_,o_,o_,o_,o_]
/-- (*heartwood/coder.Reader).Byte -/
def i_coder_Reader_Byte : Ev.Fn := ⟨1, 12, 0, (.seq (.reg [] [⟨(some 2), .mv (.k (.int .u8 0)),none,[]⟩]) (.seq (.reg [] [⟨(some 4), .mv (.t 0),none,[]⟩,⟨(some 5), .call n_coder_Reader_take [(.t 4), (.k (.int .i64 1))] [],none,[]⟩,⟨(some 3), .cn (.t 5),none,[]⟩]) (.seq (.seq (.reg [] [⟨(some 6), .cn (.t 3),none,[]⟩,⟨(some 7), .len false (.t 6),none,[]⟩,⟨(some 8), .bin .plain .eql (.t 7) (.k (.int .i64 0)),none,[]⟩]) (.cond (.t 8) (.seq (.reg [] [⟨(some 2), .mv (.k (.int .u8 0)),none,[]⟩]) (.ret i_coder_Reader_Byte_r)) .skip)) (.seq (.reg [] [⟨(some 9), .cn (.t 3),none,[]⟩,⟨(some 10), .ia 1 (.t 9) (.k (.int .i64 0)),none,[]⟩,⟨(some 11), .load false 1 (.t 10),none,[]⟩,⟨(some 2), .mv (.t 11),none,[]⟩]) (.ret i_coder_Reader_Byte_r))))),
 [.tmp 2], [], false, []⟩

def i_coder_Reader_take_r : List Bool := [o_,o_,o_,o_,i_,o_,o_,o_,o_,o_,o_,o_,o_,o_,o_,o_,o_,o_,o_,o_,o_,o_,o_,o_,o_,o_,o_,o_,o_,o_,o_,o_,o_,o_,o_,o_,o_,o_,o_]
/-- (*heartwood/coder.Reader).take -/
def i_coder_Reader_take : Ev.Fn := ⟨2, 39, 0, (.seq (.reg [] [⟨(some 4), .cn (.k (.slice none 0 0)),none,[]⟩]) (.seq (.seq (.reg [] [⟨(some 6), .mv (.t 0),none,[]⟩,⟨(some 7), .nilc (.t 6),none,[]⟩,⟨(some 8), .fa 1 (.t 7),none,[]⟩,⟨(some 9), .load false 1 (.t 8),none,[]⟩,⟨(some 10), .mv (.t 9),none,[]⟩,⟨(some 11), .mv (.t 1), (some (10, false)), []⟩,⟨(some 12), .mv (.t 0), (some (10, false)), []⟩,⟨(some 13), .nilc (.t 12), (some (10, false)), []⟩,⟨(some 14), .fa 0 (.t 13), (some (10, false)), []⟩,⟨(some 15), .load false 1 (.t 14), (some (10, false)), []⟩,⟨(some 16), .len false (.t 15), (some (10, false)), []⟩,⟨(some 17), .bin .plain .gtr (.t 11) (.t 16), (some (10, false)), []⟩,⟨(some 18), .pick (.t 10) (.k (.bool true)) (.t 17),none,[]⟩]) (.cond (.t 18) (.seq (.reg [] [⟨(some 19), .mv (.t 0),none,[]⟩,⟨(some 20), .nilc (.t 19),none,[]⟩,⟨(some 21), .fa 1 (.t 20),none,[]⟩,⟨none, .store 1 (.t 21) (.k (.bool true)),none,[]⟩]) (.seq (.reg [] [⟨(some 4), .cn (.k (.slice none 0 0)),none,[]⟩]) (.ret i_coder_Reader_take_r))) .skip)) (.seq (.reg [] [⟨(some 22), .mv (.t 0),none,[]⟩,⟨(some 23), .nilc (.t 22),none,[]⟩,⟨(some 24), .fa 0 (.t 23),none,[]⟩,⟨(some 25), .load false 1 (.t 24),none,[]⟩,⟨(some 26), .mv (.t 1),none,[]⟩,⟨(some 27), .mv (.t 1),none,[]⟩,⟨(some 28), .slice 1 (.t 25) none (some (.t 26)) (some (.t 27)), none, [25]⟩,⟨(some 5), .cn (.t 28),none,[]⟩]) (.seq (.reg [] [⟨(some 29), .mv (.t 0),none,[]⟩,⟨(some 30), .mv (.t 0),none,[]⟩,⟨(some 31), .nilc (.t 30),none,[]⟩,⟨(some 32), .fa 0 (.t 31),none,[]⟩,⟨(some 33), .load false 1 (.t 32),none,[]⟩,⟨(some 34), .mv (.t 1),none,[]⟩,⟨(some 35), .slice 1 (.t 33) (some (.t 34)) none none, none, [33]⟩,⟨(some 36), .nilc (.t 29),none,[]⟩,⟨(some 37), .fa 0 (.t 36),none,[]⟩,⟨none, .store 1 (.t 37) (.t 35),none,[]⟩]) (.seq (.reg [] [⟨(some 38), .cn (.t 5),none,[]⟩,⟨(some 4), .cn (.t 38),none,[]⟩]) (.ret i_coder_Reader_take_r)))))),
 [.tmp 4], [], false, []⟩

def tab (f : Nat) : Option Ev.Fn := match f with
  | 11 => some i_law02_CoderStays
  | 1000020 => some i_coder_Bytes_v1
  | 18 => some i_coder_Number
  | 1000024 => some i_coder_NewReader_v1
  | 1000046 => some i_slices_Clone_sl_byte_byte_v1
  | 35 => some i_coder_Reader_Bytes
  | 25 => some i_coder_Reader_Number
  | 38 => some i_coder_Reader_Byte
  | 47 => some i_coder_Reader_take
  | _ => none
theorem t_law02_CoderStays : tab n_law02_CoderStays = some i_law02_CoderStays := rfl
theorem t_coder_Bytes_v1 : tab n_coder_Bytes_v1 = some i_coder_Bytes_v1 := rfl
theorem t_coder_Number : tab n_coder_Number = some i_coder_Number := rfl
theorem t_coder_NewReader_v1 : tab n_coder_NewReader_v1 = some i_coder_NewReader_v1 := rfl
theorem t_slices_Clone_sl_byte_byte_v1 : tab n_slices_Clone_sl_byte_byte_v1 = some i_slices_Clone_sl_byte_byte_v1 := rfl
theorem t_coder_Reader_Bytes : tab n_coder_Reader_Bytes = some i_coder_Reader_Bytes := rfl
theorem t_coder_Reader_Number : tab n_coder_Reader_Number = some i_coder_Reader_Number := rfl
theorem t_coder_Reader_Byte : tab n_coder_Reader_Byte = some i_coder_Reader_Byte := rfl
theorem t_coder_Reader_take : tab n_coder_Reader_take = some i_coder_Reader_take := rfl
def G0 : Cf := ⟨fun _ => [], true⟩
@[go_sem] theorem G0_gf : G0.gf = true := rfl
@[go_sem] theorem lt_law02_CoderStays : (n_law02_CoderStays < 1000000) = True := eq_true (by decide)
@[go_sem] theorem lt_coder_Number : (n_coder_Number < 1000000) = True := eq_true (by decide)
@[go_sem] theorem lt_coder_Reader_Bytes : (n_coder_Reader_Bytes < 1000000) = True := eq_true (by decide)
@[go_sem] theorem lt_coder_Reader_Number : (n_coder_Reader_Number < 1000000) = True := eq_true (by decide)
@[go_sem] theorem lt_coder_Reader_Byte : (n_coder_Reader_Byte < 1000000) = True := eq_true (by decide)
@[go_sem] theorem lt_coder_Reader_take : (n_coder_Reader_take < 1000000) = True := eq_true (by decide)
theorem ca_law02_CoderStays (l : List AV) : cArgs tab n_law02_CoderStays l = canonA [true] l := rfl
attribute [go_sem] t_law02_CoderStays ca_law02_CoderStays
theorem ca_coder_Bytes_v1 (l : List AV) : cArgs tab n_coder_Bytes_v1 l = canonA [true] l := rfl
attribute [go_sem] t_coder_Bytes_v1 ca_coder_Bytes_v1
theorem ca_coder_Number (l : List AV) : cArgs tab n_coder_Number l = canonA [] l := rfl
attribute [go_sem] t_coder_Number ca_coder_Number
theorem ca_coder_NewReader_v1 (l : List AV) : cArgs tab n_coder_NewReader_v1 l = canonA [true] l := rfl
attribute [go_sem] t_coder_NewReader_v1 ca_coder_NewReader_v1
theorem ca_slices_Clone_sl_byte_byte_v1 (l : List AV) : cArgs tab n_slices_Clone_sl_byte_byte_v1 l = canonA [true] l := rfl
attribute [go_sem] t_slices_Clone_sl_byte_byte_v1 ca_slices_Clone_sl_byte_byte_v1
theorem ca_coder_Reader_Bytes (l : List AV) : cArgs tab n_coder_Reader_Bytes l = canonA [] l := rfl
attribute [go_sem] t_coder_Reader_Bytes ca_coder_Reader_Bytes
theorem ca_coder_Reader_Number (l : List AV) : cArgs tab n_coder_Reader_Number l = canonA [] l := rfl
attribute [go_sem] t_coder_Reader_Number ca_coder_Reader_Number
theorem ca_coder_Reader_Byte (l : List AV) : cArgs tab n_coder_Reader_Byte l = canonA [] l := rfl
attribute [go_sem] t_coder_Reader_Byte ca_coder_Reader_Byte
theorem ca_coder_Reader_take (l : List AV) : cArgs tab n_coder_Reader_take l = canonA [] l := rfl
attribute [go_sem] t_coder_Reader_take ca_coder_Reader_take
@[go_sem] theorem kt_law02_CoderStays_r (l : List AV) : keepT i_law02_CoderStays_r l = keepT [o_,o_,i_,o_,o_,o_,o_,o_,o_,o_,o_,o_,o_,o_,o_,o_,o_,o_,o_,o_,o_,o_,o_,o_,o_,o_,o_,o_,o_,o_,o_,o_,o_,o_,o_,o_,o_,o_,o_,o_,o_,o_,o_,o_,o_,o_,o_,o_,o_,o_,o_,o_,o_,o_,o_,o_,o_,o_,o_,o_,o_,o_,o_,o_,o_,o_,o_,o_,o_,o_,o_,o_,o_] l := rfl
@[go_sem] theorem kt_law02_CoderStays_j1 (l : List AV) : keepT i_law02_CoderStays_j1 l = keepT [i_,o_,o_,i_,i_,i_,i_,o_,o_,o_,o_,o_,o_,o_,o_,o_,o_,o_,o_,o_,o_,o_,o_,o_,o_,o_,o_,o_,o_,o_,o_,o_,o_,o_,o_,o_,o_,o_,o_,o_,o_,o_,o_,o_,o_,o_,o_,o_,o_,o_,o_,o_,o_,o_,o_,o_,o_,o_,o_,o_,o_,o_,o_,o_,o_,o_,o_,o_,o_,o_,o_,o_,o_] l := rfl
@[go_sem] theorem kt_law02_CoderStays_k0 (l : List AV) : keepT i_law02_CoderStays_k0 l = keepT [i_,o_,o_,i_,i_,i_,i_,o_,o_,o_,o_,o_,o_,o_,o_,o_,o_,o_,o_,o_,o_,o_,o_,o_,o_,o_,o_,o_,o_,o_,o_,o_,o_,o_,o_,o_,o_,o_,o_,o_,o_,o_,o_,o_,o_,o_,o_,o_,o_,o_,o_,o_,o_,o_,o_,o_,o_,o_,o_,o_,o_,o_,o_,o_,o_,o_,o_,o_,o_,o_,o_,o_,o_] l := rfl
@[go_sem] theorem kt_law02_CoderStays_j0 (l : List AV) : keepT i_law02_CoderStays_j0 l = keepT [i_,o_,o_,o_,i_,i_,o_,o_,o_,o_,o_,o_,o_,o_,o_,o_,o_,o_,o_,o_,o_,o_,o_,o_,o_,o_,o_,o_,o_,o_,o_,o_,o_,o_,o_,o_,o_,o_,o_,o_,o_,o_,o_,o_,o_,o_,o_,o_,o_,o_,o_,o_,o_,o_,o_,o_,o_,o_,o_,o_,o_,o_,o_,o_,o_,o_,o_,o_,o_,o_,o_,o_,o_] l := rfl
@[go_sem] theorem kt_law02_CoderStays_j3 (l : List AV) : keepT i_law02_CoderStays_j3 l = keepT [i_,o_,o_,o_,i_,i_,o_,i_,o_,o_,o_,o_,o_,o_,o_,o_,o_,o_,o_,o_,o_,o_,o_,o_,o_,o_,o_,o_,o_,o_,o_,o_,o_,o_,o_,o_,o_,o_,o_,o_,o_,o_,o_,o_,o_,o_,o_,o_,o_,o_,o_,o_,o_,o_,o_,o_,o_,o_,o_,o_,o_,o_,o_,o_,o_,o_,o_,o_,o_,o_,o_,o_,o_] l := rfl
@[go_sem] theorem kt_law02_CoderStays_k1 (l : List AV) : keepT i_law02_CoderStays_k1 l = keepT [i_,o_,o_,o_,i_,i_,o_,i_,o_,o_,o_,o_,o_,o_,o_,o_,o_,o_,o_,o_,o_,o_,o_,o_,o_,o_,o_,o_,o_,o_,o_,o_,o_,o_,o_,o_,o_,o_,o_,o_,o_,o_,o_,o_,o_,o_,o_,o_,o_,o_,o_,o_,o_,o_,o_,o_,o_,o_,o_,o_,o_,o_,o_,o_,o_,o_,o_,o_,o_,o_,o_,o_,o_] l := rfl
@[go_sem] theorem kt_law02_CoderStays_j2 (l : List AV) : keepT i_law02_CoderStays_j2 l = keepT [i_,o_,o_,o_,o_,i_,o_,o_,o_,o_,o_,o_,o_,o_,o_,o_,o_,o_,o_,o_,o_,o_,o_,o_,o_,o_,o_,o_,o_,o_,o_,o_,o_,o_,o_,o_,o_,o_,o_,o_,o_,o_,o_,o_,o_,o_,o_,o_,o_,o_,o_,o_,o_,o_,o_,o_,o_,o_,o_,o_,o_,o_,o_,o_,o_,o_,o_,o_,o_,o_,o_,o_,o_] l := rfl
@[go_sem] theorem kt_coder_Bytes_v1_r (l : List AV) : keepT i_coder_Bytes_v1_r l = keepT [o_,o_,i_,o_,o_,o_,o_,o_,o_] l := rfl
@[go_sem] theorem kt_coder_Number_r (l : List AV) : keepT i_coder_Number_r l = keepT [o_,o_,i_,o_,o_,o_,o_,o_,o_,o_,o_,o_,o_,o_,o_,o_,o_,o_,o_,o_,o_,o_,o_,o_,o_,o_,o_,o_,o_,o_,o_,o_,o_,o_,o_,o_,o_,o_,o_,o_,o_,o_,o_] l := rfl
@[go_sem] theorem kt_coder_Number_j1 (l : List AV) : keepT i_coder_Number_j1 l = keepT [i_,o_,o_,i_,o_,o_,o_,o_,o_,o_,o_,o_,o_,o_,o_,o_,o_,o_,o_,o_,o_,o_,o_,o_,o_,o_,o_,o_,o_,o_,o_,o_,o_,o_,o_,o_,o_,o_,o_,o_,o_,o_,o_] l := rfl
@[go_sem] theorem kt_coder_Number_k0 (l : List AV) : keepT i_coder_Number_k0 l = keepT [i_,o_,o_,i_,o_,o_,o_,o_,o_,o_,o_,o_,o_,o_,o_,o_,o_,o_,o_,o_,o_,o_,o_,o_,o_,o_,o_,o_,o_,o_,o_,o_,o_,o_,o_,o_,o_,o_,o_,o_,o_,o_,o_] l := rfl
@[go_sem] theorem kt_coder_Number_j0 (l : List AV) : keepT i_coder_Number_j0 l = keepT [i_,o_,o_,i_,o_,o_,o_,o_,o_,o_,o_,o_,o_,o_,o_,o_,o_,o_,o_,o_,o_,o_,o_,o_,o_,o_,o_,o_,o_,o_,o_,o_,o_,o_,o_,o_,o_,o_,o_,o_,o_,o_,o_] l := rfl
@[go_sem] theorem kt_coder_Number_j3 (l : List AV) : keepT i_coder_Number_j3 l = keepT [i_,o_,o_,i_,i_,o_,o_,o_,o_,o_,o_,o_,o_,o_,o_,o_,o_,o_,o_,o_,o_,o_,o_,o_,o_,o_,i_,i_,o_,o_,o_,o_,o_,o_,o_,o_,o_,o_,o_,o_,o_,o_,o_] l := rfl
@[go_sem] theorem kt_coder_Number_k1 (l : List AV) : keepT i_coder_Number_k1 l = keepT [i_,o_,o_,i_,i_,o_,o_,o_,o_,o_,o_,o_,o_,o_,o_,o_,o_,o_,o_,o_,o_,o_,o_,o_,o_,o_,i_,i_,o_,o_,o_,o_,o_,o_,o_,o_,o_,o_,o_,o_,o_,o_,o_] l := rfl
@[go_sem] theorem kt_coder_Number_j2 (l : List AV) : keepT i_coder_Number_j2 l = keepT [o_,o_,o_,o_,i_,o_,o_,o_,o_,o_,o_,o_,o_,o_,o_,o_,o_,o_,o_,o_,o_,o_,o_,o_,o_,o_,o_,o_,o_,o_,o_,o_,o_,o_,o_,o_,o_,o_,o_,o_,o_,o_,o_] l := rfl
@[go_sem] theorem kt_coder_NewReader_v1_r (l : List AV) : keepT i_coder_NewReader_v1_r l = keepT [o_,o_,i_,o_,o_,o_,o_] l := rfl
@[go_sem] theorem kt_slices_Clone_sl_byte_byte_v1_r (l : List AV) : keepT i_slices_Clone_sl_byte_byte_v1_r l = keepT [o_,o_,i_,o_,o_,o_,o_,o_] l := rfl
@[go_sem] theorem kt_coder_Reader_Bytes_r (l : List AV) : keepT i_coder_Reader_Bytes_r l = keepT [o_,o_,o_,o_,i_,o_,o_,o_,o_,o_,o_,o_,o_,o_,o_,o_,o_,o_,o_,o_,o_,o_,o_,o_,o_,o_,o_,o_,o_,o_,o_,o_,o_,o_,o_,o_,o_,o_,o_] l := rfl
@[go_sem] theorem kt_coder_Reader_Number_r (l : List AV) : keepT i_coder_Reader_Number_r l = keepT [o_,o_,i_,o_,o_,o_,o_,o_,o_,o_,o_,o_,o_,o_,o_,o_,o_,o_,o_,o_,o_,o_,o_,o_,o_,o_,o_,o_,o_,o_,o_,o_,o_,o_,o_,o_,o_,o_,o_,o_,o_,o_,o_,o_,o_,o_,o_,o_] l := rfl
@[go_sem] theorem kt_coder_Reader_Number_j1 (l : List AV) : keepT i_coder_Reader_Number_j1 l = keepT [i_,o_,o_,o_,i_,i_,o_,o_,o_,o_,o_,o_,o_,o_,o_,o_,o_,o_,o_,i_,i_,i_,o_,o_,o_,o_,o_,o_,o_,o_,o_,o_,o_,o_,o_,o_,o_,o_,o_,o_,o_,o_,o_,o_,o_,o_,o_,o_] l := rfl
@[go_sem] theorem kt_coder_Reader_Number_k0 (l : List AV) : keepT i_coder_Reader_Number_k0 l = keepT [i_,o_,o_,o_,i_,i_,o_,o_,o_,o_,o_,o_,o_,o_,o_,o_,o_,o_,o_,i_,i_,i_,o_,o_,o_,o_,o_,o_,o_,o_,o_,o_,o_,o_,o_,o_,o_,o_,o_,o_,o_,o_,o_,o_,o_,o_,o_,o_] l := rfl
@[go_sem] theorem kt_coder_Reader_Number_j0 (l : List AV) : keepT i_coder_Reader_Number_j0 l = keepT [i_,o_,o_,o_,i_,i_,o_,o_,o_,o_,o_,o_,o_,o_,o_,o_,o_,o_,o_,o_,o_,o_,o_,o_,o_,o_,o_,o_,o_,o_,o_,o_,o_,o_,o_,o_,o_,o_,o_,o_,o_,o_,o_,o_,o_,o_,o_,o_] l := rfl
@[go_sem] theorem kt_coder_Reader_Byte_r (l : List AV) : keepT i_coder_Reader_Byte_r l = keepT [o_,o_,i_,o_,o_,o_,o_,o_,o_,o_,o_,o_] l := rfl
@[go_sem] theorem kt_coder_Reader_take_r (l : List AV) : keepT i_coder_Reader_take_r l = keepT [o_,o_,o_,o_,i_,o_,o_,o_,o_,o_,o_,o_,o_,o_,o_,o_,o_,o_,o_,o_,o_,o_,o_,o_,o_,o_,o_,o_,o_,o_,o_,o_,o_,o_,o_,o_,o_,o_,o_] l := rfl
noncomputable def L_law02_CoderStays_0 (st : St) : Option (Ex × St) := lp tab G0 4 i_law02_CoderStays_k0 i_law02_CoderStays_b0 st
theorem L_law02_CoderStays_0_eq (st : St) : L_law02_CoderStays_0 st = againL L_law02_CoderStays_0 4 i_law02_CoderStays_k0 (app tab G0 4 [] (ex tab G0 4 i_law02_CoderStays_b0 st)) := lp_eq tab G0 4 i_law02_CoderStays_k0 i_law02_CoderStays_b0 st
@[go_sem] theorem L_law02_CoderStays_0_in (K : List Fr) (st : St) : app tab G0 4 K (ex tab G0 4 (.loop i_law02_CoderStays_k0 i_law02_CoderStays_b0) st) = app tab G0 4 K (L_law02_CoderStays_0 (clean 4 i_law02_CoderStays_k0 st)) := rfl
noncomputable def L_law02_CoderStays_1 (st : St) : Option (Ex × St) := lp tab G0 4 i_law02_CoderStays_k1 i_law02_CoderStays_b1 st
theorem L_law02_CoderStays_1_eq (st : St) : L_law02_CoderStays_1 st = againL L_law02_CoderStays_1 4 i_law02_CoderStays_k1 (app tab G0 4 [] (ex tab G0 4 i_law02_CoderStays_b1 st)) := lp_eq tab G0 4 i_law02_CoderStays_k1 i_law02_CoderStays_b1 st
@[go_sem] theorem L_law02_CoderStays_1_in (K : List Fr) (st : St) : app tab G0 4 K (ex tab G0 4 (.loop i_law02_CoderStays_k1 i_law02_CoderStays_b1) st) = app tab G0 4 K (L_law02_CoderStays_1 (clean 4 i_law02_CoderStays_k1 st)) := rfl
noncomputable def L_coder_Number_0 (st : St) : Option (Ex × St) := lp tab G0 1 i_coder_Number_k0 i_coder_Number_b0 st
theorem L_coder_Number_0_eq (st : St) : L_coder_Number_0 st = againL L_coder_Number_0 1 i_coder_Number_k0 (app tab G0 1 [] (ex tab G0 1 i_coder_Number_b0 st)) := lp_eq tab G0 1 i_coder_Number_k0 i_coder_Number_b0 st
@[go_sem] theorem L_coder_Number_0_in (K : List Fr) (st : St) : app tab G0 1 K (ex tab G0 1 (.loop i_coder_Number_k0 i_coder_Number_b0) st) = app tab G0 1 K (L_coder_Number_0 (clean 1 i_coder_Number_k0 st)) := rfl
noncomputable def L_coder_Number_1 (st : St) : Option (Ex × St) := lp tab G0 1 i_coder_Number_k1 i_coder_Number_b1 st
theorem L_coder_Number_1_eq (st : St) : L_coder_Number_1 st = againL L_coder_Number_1 1 i_coder_Number_k1 (app tab G0 1 [] (ex tab G0 1 i_coder_Number_b1 st)) := lp_eq tab G0 1 i_coder_Number_k1 i_coder_Number_b1 st
@[go_sem] theorem L_coder_Number_1_in (K : List Fr) (st : St) : app tab G0 1 K (ex tab G0 1 (.loop i_coder_Number_k1 i_coder_Number_b1) st) = app tab G0 1 K (L_coder_Number_1 (clean 1 i_coder_Number_k1 st)) := rfl
noncomputable def L_coder_Reader_Number_0 (st : St) : Option (Ex × St) := lp tab G0 0 i_coder_Reader_Number_k0 i_coder_Reader_Number_b0 st
theorem L_coder_Reader_Number_0_eq (st : St) : L_coder_Reader_Number_0 st = againL L_coder_Reader_Number_0 0 i_coder_Reader_Number_k0 (app tab G0 0 [] (ex tab G0 0 i_coder_Reader_Number_b0 st)) := lp_eq tab G0 0 i_coder_Reader_Number_k0 i_coder_Reader_Number_b0 st
@[go_sem] theorem L_coder_Reader_Number_0_in (K : List Fr) (st : St) : app tab G0 0 K (ex tab G0 0 (.loop i_coder_Reader_Number_k0 i_coder_Reader_Number_b0) st) = app tab G0 0 K (L_coder_Reader_Number_0 (clean 0 i_coder_Reader_Number_k0 st)) := rfl
end Go.Proofs.Ytfbipgidlecmkaa
