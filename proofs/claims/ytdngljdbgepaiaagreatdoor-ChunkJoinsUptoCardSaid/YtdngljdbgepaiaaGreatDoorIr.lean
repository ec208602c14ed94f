/- The IR of the seat's functions, printed by a program of this session. -/
import Derived.Test.YtdngljdbgepaiaaGreatDoorIrP1
set_option linter.unusedVariables false
namespace Go.Proofs.YtdngljdbgepaiaaGreatDoor
open Go.Ev

def i_ref11_Cuts_r : List Bool := [o_,o_,i_,o_,o_,o_,o_,o_,o_,o_,o_,o_,o_,o_,o_,o_,o_,o_,o_,o_,o_,o_,o_,o_,o_,o_,o_]
def i_ref11_Cuts_j1 : List Bool := [o_,i_,o_,i_,i_,o_,o_,o_,o_,o_,o_,o_,o_,o_,o_,o_,o_,o_,o_,o_,o_,o_,o_,o_,o_,o_,o_]
def i_ref11_Cuts_k0 : List Bool := [o_,i_,o_,i_,i_,o_,o_,o_,o_,o_,o_,o_,o_,o_,o_,o_,o_,o_,o_,o_,o_,o_,o_,o_,o_,o_,o_]
def i_ref11_Cuts_j0 : List Bool := [o_,o_,o_,i_,o_,o_,o_,o_,o_,o_,o_,o_,o_,o_,o_,o_,o_,o_,o_,o_,o_,o_,o_,o_,o_,o_,o_]
abbrev s_ref11_Cuts_R (t2 : AV) (h : Heap) : St := ⟨[u_,u_,t2, u_,u_,u_,u_,u_,u_,u_,u_,u_,u_,u_,u_,u_,u_,u_,u_,u_,u_,u_,u_,u_,u_,u_,u_], h⟩
abbrev s_ref11_Cuts_K0 (t1 t3 t4 : AV) (h : Heap) : St := ⟨[u_,t1, u_,t3, t4, u_,u_,u_,u_,u_,u_,u_,u_,u_,u_,u_,u_,u_,u_,u_,u_,u_,u_,u_,u_,u_,u_], h⟩
def i_ref11_Cuts_b0 : IR := (.seq (.seq (.reg [] [⟨(some 11), .mv (.t 4),none,[]⟩,⟨(some 12), .fa 4 (.t 1),none,[]⟩,⟨(some 13), .load false 1 (.t 12),none,[]⟩,⟨(some 14), .len false (.t 13),none,[]⟩,⟨(some 15), .bin .plain .lss (.t 11) (.t 14),none,[]⟩]) (.cond (.t 15) .skip (.exit 0 i_ref11_Cuts_j0))) (.seq (.block 1 i_ref11_Cuts_j1 (.reg [] [⟨(some 18), .mv (.t 3),none,[]⟩,⟨(some 19), .fa 4 (.t 1),none,[]⟩,⟨(some 20), .load false 1 (.t 19),none,[]⟩,⟨(some 21), .mv (.t 4),none,[]⟩,⟨(some 22), .ia 5 (.t 20) (.t 21),none,[]⟩,⟨(some 23), .load true 5 (.t 22),none,[]⟩,⟨(some 24), .qcall n_ref11_Cuts [(.t 23)] [],none,[]⟩,⟨(some 25), .app 1 ty_sl_uint8 1 24 (.t 18) (.t 24),none,[]⟩,⟨(some 3), .mv (.t 25),none,[]⟩])) (.reg [] [⟨(some 16), .mv (.t 4),none,[]⟩,⟨(some 17), .bin .plain .add (.t 16) (.k (.int .i64 1)),none,[]⟩,⟨(some 4), .mv (.t 17),none,[]⟩])))

abbrev s_ref11_Cuts_J0 (t3 : AV) (h : Heap) : St := ⟨[u_,u_,u_,t3, u_,u_,u_,u_,u_,u_,u_,u_,u_,u_,u_,u_,u_,u_,u_,u_,u_,u_,u_,u_,u_,u_,u_], h⟩
/-- heartwood/heartwoodref11.Cuts -/
def i_ref11_Cuts : Ev.Fn := ⟨1, 27, 2, (.seq (.reg [] [⟨(some 1), .box 0 5 (.t 0),none,[]⟩,⟨(some 2), .cn (.k (.slice none 0 0)),none,[]⟩]) (.seq (.seq (.reg [] [⟨(some 5), .fa 0 (.t 1),none,[]⟩,⟨(some 6), .load false 1 (.t 5),none,[]⟩,⟨(some 7), .bin .plain .eql (.t 6) (.k (.int .i64 3)),none,[]⟩]) (.cond (.t 7) (.seq (.reg [] [⟨(some 8), .fa 3 (.t 1),none,[]⟩,⟨(some 9), .load false 1 (.t 8),none,[]⟩,⟨(some 10), .litd 1 1 [(.slice none 0 0)] [(0, (.t 9))],none,[]⟩,⟨(some 2), .cn (.t 10),none,[]⟩]) (.ret i_ref11_Cuts_r)) .skip)) (.seq (.reg [] [⟨(some 3), .mv (.k (.slice none 0 0)),none,[]⟩]) (.seq (.seq (.reg [] [⟨(some 4), .mv (.k (.int .i64 0)),none,[]⟩]) (.block 0 i_ref11_Cuts_j0 (.loop i_ref11_Cuts_k0 i_ref11_Cuts_b0))) (.seq (.reg [] [⟨(some 26), .cn (.t 3), none, [3]⟩,⟨(some 2), .cn (.t 26), none, [26]⟩]) (.ret i_ref11_Cuts_r)))))),
 [.tmp 2], [], false, []⟩

def i_ref11_Fits_r : List Bool := [o_,o_,o_,o_,o_,o_,o_,o_,o_,o_,i_,o_,o_,o_,o_,o_,o_,o_,o_,o_,o_,o_,o_,o_,o_,o_,o_,o_,o_,o_,o_,o_,o_,o_,o_,o_,o_,o_,o_,o_,o_,o_,o_,o_,o_,o_,o_,o_,o_,o_,o_,o_,o_,o_,o_,o_,o_,o_,o_,o_,o_,o_,o_,o_,o_,o_,o_,o_,o_]
/-- heartwood/heartwoodref11.Fits -/
def i_ref11_Fits : Ev.Fn := ⟨5, 69, 3, (.seq (.reg [] [⟨(some 5), .box 0 9 (.t 0),none,[]⟩,⟨(some 7), .box 1 5 (.t 2),none,[]⟩,⟨(some 9), .box 2 5 (.t 4),none,[]⟩,⟨(some 10), .mv (.k (.int .i64 0)),none,[]⟩]) (.seq (.seq (.reg [] [⟨(some 16), .mv (.t 1),none,[]⟩,⟨(some 17), .bin .plain .lss (.t 16) (.k (.int .i64 1)),none,[]⟩,⟨(some 18), .mv (.t 17),none,[]⟩,⟨(some 19), .mv (.t 1), (some (18, false)), []⟩,⟨(some 20), .bin .plain .gtr (.t 19) (.k (.int .i64 32)), (some (18, false)), []⟩,⟨(some 21), .pick (.t 18) (.k (.bool true)) (.t 20),none,[]⟩]) (.cond (.t 21) (.seq (.reg [] [⟨(some 10), .mv (.k (.int .i64 1)),none,[]⟩]) (.ret i_ref11_Fits_r)) .skip)) (.seq (.reg [] [⟨(some 22), .load true 5 (.t 7),none,[]⟩,⟨(some 23), .qcall n_ref04_Check [(.t 22)] [],none,[]⟩,⟨(some 11), .mv (.t 23),none,[]⟩]) (.seq (.seq (.reg [] [⟨(some 24), .mv (.t 11),none,[]⟩,⟨(some 25), .bin .plain .eql (.t 24) (.k (.int .i64 0)),none,[]⟩]) (.cond (.t 25) (.reg [] [⟨(some 26), .load true 5 (.t 9),none,[]⟩,⟨(some 27), .qcall n_ref04_Check [(.t 26)] [],none,[]⟩,⟨(some 11), .mv (.t 27),none,[]⟩]) .skip)) (.seq (.seq (.reg [] [⟨(some 28), .mv (.t 11),none,[]⟩,⟨(some 29), .bin .plain .neq (.t 28) (.k (.int .i64 0)),none,[]⟩]) (.cond (.t 29) (.seq (.reg [] [⟨(some 30), .mv (.t 11),none,[]⟩,⟨(some 10), .mv (.t 30),none,[]⟩]) (.ret i_ref11_Fits_r)) .skip)) (.seq (.reg [] [⟨(some 32), .load true 9 (.t 5),none,[]⟩,⟨(some 33), .mv (.t 1),none,[]⟩,⟨(some 34), .load true 5 (.t 9),none,[]⟩,⟨(some 35), .qcall n_ref04_Digest [(.t 32), (.t 33), (.t 34)] [],none,[]⟩,⟨(some 31), .mv (.t 35),none,[]⟩,⟨(some 36), .ext 0 (.t 31),none,[]⟩,⟨(some 37), .ext 1 (.t 31),none,[]⟩,⟨(some 12), .cn (.t 36),none,[]⟩,⟨(some 13), .mv (.t 37),none,[]⟩]) (.seq (.reg [] [⟨(some 38), .load true 5 (.t 9),none,[]⟩,⟨(some 39), .qcall n_ref04_Full [(.t 38)] [],none,[]⟩,⟨(some 14), .mv (.t 39),none,[]⟩]) (.seq (.seq (.reg [] [⟨(some 40), .mv (.t 13),none,[]⟩,⟨(some 41), .un .not (.t 40),none,[]⟩,⟨(some 42), .mv (.t 41),none,[]⟩,⟨(some 43), .mv (.t 14), (some (42, false)), []⟩,⟨(some 44), .un .not (.t 43), (some (42, false)), []⟩,⟨(some 45), .pick (.t 42) (.k (.bool true)) (.t 44),none,[]⟩,⟨(some 46), .mv (.t 45),none,[]⟩,⟨(some 47), .fa 0 (.t 9), (some (46, false)), []⟩,⟨(some 48), .load false 1 (.t 47), (some (46, false)), []⟩,⟨(some 49), .bin .plain .eql (.t 48) (.k (.int .i64 0)), (some (46, false)), []⟩,⟨(some 50), .pick (.t 46) (.k (.bool true)) (.t 49),none,[]⟩]) (.cond (.t 50) (.seq (.reg [] [⟨(some 10), .mv (.k (.int .i64 3)),none,[]⟩]) (.ret i_ref11_Fits_r)) .skip)) (.seq (.reg [] [⟨(some 51), .load true 5 (.t 7),none,[]⟩,⟨(some 52), .qcall n_ref11_Cuts [(.t 51)] [],none,[]⟩,⟨(some 15), .cn (.t 52),none,[]⟩]) (.seq (.seq (.reg [] [⟨(some 53), .mv (.t 3),none,[]⟩,⟨(some 54), .bin .plain .lss (.t 53) (.k (.int .i64 0)),none,[]⟩,⟨(some 55), .mv (.t 54),none,[]⟩,⟨(some 56), .mv (.t 3), (some (55, false)), []⟩,⟨(some 57), .cn (.t 15), (some (55, false)), []⟩,⟨(some 58), .len false (.t 57), (some (55, false)), []⟩,⟨(some 59), .bin .plain .geq (.t 56) (.t 58), (some (55, false)), []⟩,⟨(some 60), .pick (.t 55) (.k (.bool true)) (.t 59),none,[]⟩]) (.cond (.t 60) (.seq (.reg [] [⟨(some 10), .mv (.k (.int .i64 9)),none,[]⟩]) (.ret i_ref11_Fits_r)) .skip)) (.seq (.seq (.reg [] [⟨(some 61), .cn (.t 15),none,[]⟩,⟨(some 62), .mv (.t 3),none,[]⟩,⟨(some 63), .ia 1 (.t 61) (.t 62),none,[]⟩,⟨(some 64), .load false 1 (.t 63),none,[]⟩,⟨(some 65), .b2s (.t 64),none,[]⟩,⟨(some 66), .cn (.t 12),none,[]⟩,⟨(some 67), .b2s (.t 66),none,[]⟩,⟨(some 68), .bin .plain .neq (.t 65) (.t 67),none,[]⟩]) (.cond (.t 68) (.seq (.reg [] [⟨(some 10), .mv (.k (.int .i64 6)),none,[]⟩]) (.ret i_ref11_Fits_r)) .skip)) (.seq (.reg [] [⟨(some 10), .mv (.k (.int .i64 0)),none,[]⟩]) (.ret i_ref11_Fits_r))))))))))))),
 [.tmp 10], [], false, []⟩

def i_ref04_Digest_r : List Bool := [o_,o_,o_,o_,o_,o_,i_,i_,o_,o_,o_,o_,o_,o_,o_,o_,o_,o_,o_,o_,o_,o_,o_,o_,o_,o_,o_,o_,o_,o_,o_,o_,o_,o_,o_,o_,o_,o_,o_,o_,o_,o_,o_,o_,o_,o_,o_,o_,o_,o_,o_,o_,o_,o_,o_,o_,o_,o_,o_,o_,o_,o_,o_,o_,o_,o_,o_,o_,o_,o_,o_,o_,o_,o_,o_,o_,o_,o_,o_,o_,o_,o_,o_,o_,o_,o_]
def i_ref04_Digest_j0 : List Bool := [o_,i_,o_,i_,o_,i_,o_,o_,o_,o_,o_,o_,o_,o_,o_,o_,o_,o_,o_,o_,o_,o_,o_,o_,o_,o_,o_,o_,o_,o_,o_,o_,o_,o_,o_,o_,o_,o_,o_,o_,o_,o_,o_,o_,o_,o_,o_,o_,o_,o_,o_,o_,o_,o_,o_,o_,o_,o_,o_,o_,o_,o_,o_,o_,o_,o_,o_,o_,o_,o_,o_,o_,o_,o_,o_,o_,o_,o_,o_,o_,o_,o_,o_,o_,o_,o_]
/-- heartwood/heartwoodref04.Digest -/
def i_ref04_Digest : Ev.Fn := ⟨3, 86, 2, (.seq (.reg [] [⟨(some 3), .box 0 9 (.t 0),none,[]⟩,⟨(some 5), .box 1 5 (.t 2),none,[]⟩,⟨(some 6), .cn (.k (.slice none 0 0)),none,[]⟩,⟨(some 7), .mv (.k (.bool false)),none,[]⟩]) (.seq (.seq (.reg [] [⟨(some 14), .fa 0 (.t 5),none,[]⟩,⟨(some 15), .load false 1 (.t 14),none,[]⟩]) (.block 0 i_ref04_Digest_j0 (.seq (.reg [] [⟨(some 17), .bin .plain .eql (.t 15) (.k (.int .i64 0)),none,[]⟩,⟨(some 16), .mv (.t 17),none,[]⟩]) (.cond (.t 16) (.seq (.reg [] [⟨(some 18), .load true 9 (.t 3),none,[]⟩,⟨(some 19), .mv (.t 1),none,[]⟩,⟨(some 20), .litd 1 1 [(.int .u8 0)] [(0, (.k (.int .u8 3)))],none,[]⟩,⟨(some 21), .qcall n_ref03_Of [(.t 18), (.t 19), (.t 20)] [],none,[]⟩,⟨(some 6), .cn (.t 21),none,[]⟩,⟨(some 7), .mv (.k (.bool true)),none,[]⟩]) (.ret i_ref04_Digest_r)) (.seq (.reg [] [⟨(some 23), .bin .plain .eql (.t 15) (.k (.int .i64 3)),none,[]⟩,⟨(some 22), .mv (.t 23),none,[]⟩]) (.cond (.t 22) (.seq (.reg [] [⟨(some 24), .fa 3 (.t 5),none,[]⟩,⟨(some 25), .load false 1 (.t 24),none,[]⟩,⟨(some 26), .fa 3 (.t 5),none,[]⟩,⟨(some 27), .load false 1 (.t 26),none,[]⟩,⟨(some 28), .len false (.t 27),none,[]⟩,⟨(some 29), .mv (.t 1),none,[]⟩,⟨(some 30), .bin .plain .eql (.t 28) (.t 29),none,[]⟩,⟨(some 6), .cn (.t 25),none,[]⟩,⟨(some 7), .mv (.t 30),none,[]⟩]) (.ret i_ref04_Digest_r)) .skip)))))) (.seq (.reg [] [⟨(some 31), .fa 3 (.t 5),none,[]⟩,⟨(some 32), .load false 1 (.t 31),none,[]⟩,⟨(some 8), .cn (.t 32),none,[]⟩]) (.seq (.seq (.reg [] [⟨(some 33), .fa 0 (.t 5),none,[]⟩,⟨(some 34), .load false 1 (.t 33),none,[]⟩,⟨(some 35), .bin .plain .eql (.t 34) (.k (.int .i64 1)),none,[]⟩]) (.cond (.t 35) (.reg [] [⟨(some 36), .load true 9 (.t 3),none,[]⟩,⟨(some 37), .mv (.t 1),none,[]⟩,⟨(some 38), .fa 2 (.t 5),none,[]⟩,⟨(some 39), .load false 1 (.t 38),none,[]⟩,⟨(some 40), .qcall n_ref03_Value [(.t 39)] [],none,[]⟩,⟨(some 41), .qcall n_ref03_Of [(.t 36), (.t 37), (.t 40)] [],none,[]⟩,⟨(some 8), .cn (.t 41),none,[]⟩]) .skip)) (.seq (.seq (.reg [] [⟨(some 42), .cn (.t 8),none,[]⟩,⟨(some 43), .len false (.t 42),none,[]⟩,⟨(some 44), .mv (.t 1),none,[]⟩,⟨(some 45), .bin .plain .neq (.t 43) (.t 44),none,[]⟩]) (.cond (.t 45) (.seq (.reg [] [⟨(some 6), .cn (.k (.slice none 0 0)),none,[]⟩,⟨(some 7), .mv (.k (.bool false)),none,[]⟩]) (.ret i_ref04_Digest_r)) .skip)) (.seq (.reg [] [⟨(some 47), .load true 9 (.t 3),none,[]⟩,⟨(some 48), .mv (.t 1),none,[]⟩,⟨(some 49), .fa 4 (.t 5),none,[]⟩,⟨(some 50), .load false 1 (.t 49),none,[]⟩,⟨(some 51), .ia 5 (.t 50) (.k (.int .i64 0)),none,[]⟩,⟨(some 52), .load true 5 (.t 51),none,[]⟩,⟨(some 53), .qcall n_ref04_Digest [(.t 47), (.t 48), (.t 52)] [],none,[]⟩,⟨(some 46), .mv (.t 53),none,[]⟩,⟨(some 54), .ext 0 (.t 46),none,[]⟩,⟨(some 55), .ext 1 (.t 46),none,[]⟩,⟨(some 9), .cn (.t 54),none,[]⟩,⟨(some 10), .mv (.t 55),none,[]⟩]) (.seq (.reg [] [⟨(some 57), .load true 9 (.t 3),none,[]⟩,⟨(some 58), .mv (.t 1),none,[]⟩,⟨(some 59), .fa 4 (.t 5),none,[]⟩,⟨(some 60), .load false 1 (.t 59),none,[]⟩,⟨(some 61), .ia 5 (.t 60) (.k (.int .i64 1)),none,[]⟩,⟨(some 62), .load true 5 (.t 61),none,[]⟩,⟨(some 63), .qcall n_ref04_Digest [(.t 57), (.t 58), (.t 62)] [],none,[]⟩,⟨(some 56), .mv (.t 63),none,[]⟩,⟨(some 64), .ext 0 (.t 56),none,[]⟩,⟨(some 65), .ext 1 (.t 56),none,[]⟩,⟨(some 11), .cn (.t 64),none,[]⟩,⟨(some 12), .mv (.t 65),none,[]⟩]) (.seq (.seq (.reg [] [⟨(some 66), .mv (.t 10),none,[]⟩,⟨(some 67), .un .not (.t 66),none,[]⟩,⟨(some 68), .mv (.t 67),none,[]⟩,⟨(some 69), .mv (.t 12), (some (68, false)), []⟩,⟨(some 70), .un .not (.t 69), (some (68, false)), []⟩,⟨(some 71), .pick (.t 68) (.k (.bool true)) (.t 70),none,[]⟩]) (.cond (.t 71) (.seq (.reg [] [⟨(some 6), .cn (.k (.slice none 0 0)),none,[]⟩,⟨(some 7), .mv (.k (.bool false)),none,[]⟩]) (.ret i_ref04_Digest_r)) .skip)) (.seq (.reg [] [⟨(some 72), .load true 9 (.t 3),none,[]⟩,⟨(some 73), .mv (.t 1),none,[]⟩,⟨(some 74), .fa 1 (.t 5),none,[]⟩,⟨(some 75), .load false 1 (.t 74),none,[]⟩,⟨(some 76), .cn (.t 8),none,[]⟩,⟨(some 77), .qcall n_ref03_Pair [(.t 75), (.t 76)] [],none,[]⟩,⟨(some 78), .qcall n_ref03_Of [(.t 72), (.t 73), (.t 77)] [],none,[]⟩,⟨(some 13), .cn (.t 78),none,[]⟩]) (.seq (.reg [] [⟨(some 79), .load true 9 (.t 3),none,[]⟩,⟨(some 80), .mv (.t 1),none,[]⟩,⟨(some 81), .cn (.t 9),none,[]⟩,⟨(some 82), .cn (.t 13),none,[]⟩,⟨(some 83), .cn (.t 11),none,[]⟩,⟨(some 84), .qcall n_ref03_Node [(.t 81), (.t 82), (.t 83)] [],none,[]⟩,⟨(some 85), .qcall n_ref03_Of [(.t 79), (.t 80), (.t 84)] [],none,[]⟩,⟨(some 6), .cn (.t 85),none,[]⟩,⟨(some 7), .mv (.k (.bool true)),none,[]⟩]) (.ret i_ref04_Digest_r))))))))))),
 [.tmp 6, .tmp 7], [], false, []⟩

def i_ref03_Of_r : List Bool := [o_,o_,o_,o_,o_,o_,i_,o_,o_,o_,o_,o_]
/-- heartwood/heartwoodref03.Of -/
def i_ref03_Of : Ev.Fn := ⟨3, 12, 1, (.seq (.reg [] [⟨(some 3), .box 0 9 (.t 0),none,[]⟩,⟨(some 6), .cn (.k (.slice none 0 0)),none,[]⟩]) (.seq (.reg [] [⟨(some 7), .load true 9 (.t 3),none,[]⟩,⟨(some 8), .cn (.t 2),none,[]⟩,⟨(some 9), .qcall n_ref01_Tables_Sum [(.t 7), (.t 8)] [],none,[]⟩,⟨(some 10), .mv (.t 1),none,[]⟩,⟨(some 11), .slice 1 (.t 9) none (some (.t 10)) none,none,[]⟩,⟨(some 6), .cn (.t 11),none,[]⟩]) (.ret i_ref03_Of_r))),
 [.tmp 6], [], false, []⟩

def i_ref01_Tables_Sum_r : List Bool := [o_,o_,o_,o_,i_,o_,o_,o_,o_,o_,o_,o_,o_,o_,o_,o_,o_,o_,o_,o_,o_,o_,o_,o_,o_,o_,o_,o_,o_,o_,o_,o_,o_,o_,o_,o_,o_,o_,o_,o_,o_,o_,o_,o_,o_,o_,o_,o_,o_,o_,o_,o_,o_]
def i_ref01_Tables_Sum_j1 : List Bool := [o_,o_,i_,o_,o_,i_,i_,i_,o_,o_,o_,o_,o_,o_,o_,o_,o_,o_,o_,o_,o_,o_,o_,o_,o_,o_,o_,o_,o_,o_,o_,o_,o_,o_,o_,o_,o_,o_,o_,o_,o_,o_,o_,o_,o_,o_,o_,o_,o_,o_,o_,o_,o_]
def i_ref01_Tables_Sum_k0 : List Bool := [o_,o_,i_,o_,o_,i_,i_,i_,o_,o_,o_,o_,o_,o_,o_,o_,o_,o_,o_,o_,o_,o_,o_,o_,o_,o_,o_,o_,o_,o_,o_,o_,o_,o_,o_,o_,o_,o_,o_,o_,o_,o_,o_,o_,o_,o_,o_,o_,o_,o_,o_,o_,o_]
def i_ref01_Tables_Sum_j0 : List Bool := [o_,o_,o_,o_,o_,o_,i_,o_,o_,o_,o_,o_,o_,o_,o_,o_,o_,o_,o_,o_,o_,o_,o_,o_,o_,o_,o_,o_,o_,o_,o_,o_,o_,o_,o_,o_,o_,o_,o_,o_,o_,o_,o_,o_,o_,o_,o_,o_,o_,o_,o_,o_,o_]
def i_ref01_Tables_Sum_j3 : List Bool := [o_,o_,o_,o_,o_,o_,i_,o_,i_,i_,o_,o_,o_,o_,o_,o_,o_,o_,o_,o_,o_,o_,o_,o_,o_,o_,o_,o_,o_,o_,o_,o_,o_,o_,o_,o_,o_,o_,o_,o_,o_,o_,o_,o_,o_,o_,o_,o_,o_,o_,o_,o_,o_]
def i_ref01_Tables_Sum_k1 : List Bool := [o_,o_,o_,o_,o_,o_,i_,o_,i_,i_,o_,o_,o_,o_,o_,o_,o_,o_,o_,o_,o_,o_,o_,o_,o_,o_,o_,o_,o_,o_,o_,o_,o_,o_,o_,o_,o_,o_,o_,o_,o_,o_,o_,o_,o_,o_,o_,o_,o_,o_,o_,o_,o_]
def i_ref01_Tables_Sum_j2 : List Bool := [o_,o_,o_,o_,o_,o_,o_,o_,i_,o_,o_,o_,o_,o_,o_,o_,o_,o_,o_,o_,o_,o_,o_,o_,o_,o_,o_,o_,o_,o_,o_,o_,o_,o_,o_,o_,o_,o_,o_,o_,o_,o_,o_,o_,o_,o_,o_,o_,o_,o_,o_,o_,o_]
abbrev s_ref01_Tables_Sum_R (t4 : AV) (h : Heap) : St := ⟨[u_,u_,u_,u_,t4, u_,u_,u_,u_,u_,u_,u_,u_,u_,u_,u_,u_,u_,u_,u_,u_,u_,u_,u_,u_,u_,u_,u_,u_,u_,u_,u_,u_,u_,u_,u_,u_,u_,u_,u_,u_,u_,u_,u_,u_,u_,u_,u_,u_,u_,u_,u_,u_], h⟩
abbrev s_ref01_Tables_Sum_K0 (t2 t5 t6 t7 : AV) (h : Heap) : St := ⟨[u_,u_,t2, u_,u_,t5, t6, t7, u_,u_,u_,u_,u_,u_,u_,u_,u_,u_,u_,u_,u_,u_,u_,u_,u_,u_,u_,u_,u_,u_,u_,u_,u_,u_,u_,u_,u_,u_,u_,u_,u_,u_,u_,u_,u_,u_,u_,u_,u_,u_,u_,u_,u_], h⟩
def i_ref01_Tables_Sum_b0 : IR := (.seq (.seq (.reg [] [⟨(some 20), .mv (.t 7),none,[]⟩,⟨(some 21), .cn (.t 5),none,[]⟩,⟨(some 22), .len false (.t 21),none,[]⟩,⟨(some 23), .bin .plain .lss (.t 20) (.t 22),none,[]⟩]) (.cond (.t 23) .skip (.exit 0 i_ref01_Tables_Sum_j0))) (.seq (.block 1 i_ref01_Tables_Sum_j1 (.reg [(0, 6), (1, 6)] [⟨(some 26), .load true 9 (.t 2),none,[]⟩,⟨(some 27), .load true 8 (.t 6),none,[]⟩,⟨(some 28), .cn (.t 5),none,[]⟩,⟨(some 29), .mv (.t 7),none,[]⟩,⟨(some 30), .mv (.t 7),none,[]⟩,⟨(some 31), .bin .plain .add (.t 30) (.k (.int .i64 64)),none,[]⟩,⟨(some 32), .slice 1 (.t 28) (some (.t 29)) (some (.t 31)) none, none, [28]⟩,⟨(some 33), .qcall n_ref01_Tables_Step [(.t 26), (.t 27), (.t 32)] [],none,[]⟩,⟨none, .store 8 (.t 6) (.t 33),none,[]⟩])) (.reg [] [⟨(some 24), .mv (.t 7),none,[]⟩,⟨(some 25), .bin .plain .add (.t 24) (.k (.int .i64 64)),none,[]⟩,⟨(some 7), .mv (.t 25),none,[]⟩])))

abbrev s_ref01_Tables_Sum_J0 (t6 : AV) (h : Heap) : St := ⟨[u_,u_,u_,u_,u_,u_,t6, u_,u_,u_,u_,u_,u_,u_,u_,u_,u_,u_,u_,u_,u_,u_,u_,u_,u_,u_,u_,u_,u_,u_,u_,u_,u_,u_,u_,u_,u_,u_,u_,u_,u_,u_,u_,u_,u_,u_,u_,u_,u_,u_,u_,u_,u_], h⟩
abbrev s_ref01_Tables_Sum_K1 (t6 t8 t9 : AV) (h : Heap) : St := ⟨[u_,u_,u_,u_,u_,u_,t6, u_,t8, t9, u_,u_,u_,u_,u_,u_,u_,u_,u_,u_,u_,u_,u_,u_,u_,u_,u_,u_,u_,u_,u_,u_,u_,u_,u_,u_,u_,u_,u_,u_,u_,u_,u_,u_,u_,u_,u_,u_,u_,u_,u_,u_,u_], h⟩
def i_ref01_Tables_Sum_b1 : IR := (.seq (.seq (.reg [] [⟨(some 35), .mv (.t 9),none,[]⟩,⟨(some 36), .bin .plain .lss (.t 35) (.k (.int .i64 32)),none,[]⟩]) (.cond (.t 36) .skip (.exit 2 i_ref01_Tables_Sum_j2))) (.seq (.block 3 i_ref01_Tables_Sum_j3 (.reg [] [⟨(some 39), .mv (.t 8),none,[]⟩,⟨(some 40), .mv (.t 9),none,[]⟩,⟨(some 41), .mv (.t 9),none,[]⟩,⟨(some 42), .bin .plain .quo (.t 41) (.k (.int .i64 4)),none,[]⟩,⟨(some 43), .iap 8 1 (.t 6) (.t 42),none,[]⟩,⟨(some 44), .load false 1 (.t 43),none,[]⟩,⟨(some 45), .mv (.t 9),none,[]⟩,⟨(some 46), .bin .plain .rem (.t 45) (.k (.int .i64 4)),none,[]⟩,⟨(some 47), .bin .plain .mul (.k (.int .i64 8)) (.t 46),none,[]⟩,⟨(some 48), .bin .plain .sub (.k (.int .i64 24)) (.t 47),none,[]⟩,⟨(some 49), .bin .plain .shr (.t 44) (.t 48),none,[]⟩,⟨(some 50), .conv .u8 (.t 49),none,[]⟩,⟨(some 51), .ia 1 (.t 39) (.t 40),none,[]⟩,⟨none, .store 1 (.t 51) (.t 50),none,[]⟩])) (.reg [] [⟨(some 37), .mv (.t 9),none,[]⟩,⟨(some 38), .bin .plain .add (.t 37) (.k (.int .i64 1)),none,[]⟩,⟨(some 9), .mv (.t 38),none,[]⟩])))

abbrev s_ref01_Tables_Sum_J2 (t8 : AV) (h : Heap) : St := ⟨[u_,u_,u_,u_,u_,u_,u_,u_,t8, u_,u_,u_,u_,u_,u_,u_,u_,u_,u_,u_,u_,u_,u_,u_,u_,u_,u_,u_,u_,u_,u_,u_,u_,u_,u_,u_,u_,u_,u_,u_,u_,u_,u_,u_,u_,u_,u_,u_,u_,u_,u_,u_,u_], h⟩
/-- (heartwood/heartwoodref01.Tables).Sum -/
def i_ref01_Tables_Sum : Ev.Fn := ⟨2, 53, 4, (.seq (.reg [] [⟨(some 2), .box 0 9 (.t 0),none,[]⟩,⟨(some 4), .cn (.k (.slice none 0 0)),none,[]⟩]) (.seq (.reg [] [⟨(some 10), .lit 1 ty_uint8 1 0 [(.int .u8 0)] [],none,[]⟩,⟨(some 11), .cn (.t 1),none,[]⟩,⟨(some 12), .app 1 ty_uint8 1 1 (.t 10) (.t 11),none,[]⟩,⟨(some 5), .mv (.t 12),none,[]⟩]) (.seq (.reg [] [⟨(some 13), .mv (.t 5),none,[]⟩,⟨(some 14), .cn (.t 1),none,[]⟩,⟨(some 15), .len false (.t 14),none,[]⟩,⟨(some 16), .qcall n_ref01_Tail [(.t 15)] [],none,[]⟩,⟨(some 17), .app 1 ty_uint8 1 1 (.t 13) (.t 16),none,[]⟩,⟨(some 5), .mv (.t 17),none,[]⟩]) (.seq (.reg [] [⟨(some 18), .fa 1 (.t 2),none,[]⟩,⟨(some 19), .load true 8 (.t 18),none,[]⟩,⟨(some 6), .new 2 [(.int .u32 0), (.int .u32 0), (.int .u32 0), (.int .u32 0), (.int .u32 0), (.int .u32 0), (.int .u32 0), (.int .u32 0)],none,[]⟩,⟨none, .store 8 (.t 6) (.t 19),none,[]⟩]) (.seq (.seq (.reg [] [⟨(some 7), .mv (.k (.int .i64 0)),none,[]⟩]) (.block 0 i_ref01_Tables_Sum_j0 (.loop i_ref01_Tables_Sum_k0 i_ref01_Tables_Sum_b0))) (.seq (.reg [] [⟨(some 34), .make 3 ty_uint8 1 1 [(.int .u8 0)] (.k (.int .i64 32)) (.k (.int .i64 32)),none,[]⟩,⟨(some 8), .mv (.t 34),none,[]⟩]) (.seq (.seq (.reg [] [⟨(some 9), .mv (.k (.int .i64 0)),none,[]⟩]) (.block 2 i_ref01_Tables_Sum_j2 (.loop i_ref01_Tables_Sum_k1 i_ref01_Tables_Sum_b1))) (.seq (.reg [] [⟨(some 52), .cn (.t 8), none, [8]⟩,⟨(some 4), .cn (.t 52), none, [52]⟩]) (.ret i_ref01_Tables_Sum_r))))))))),
 [.tmp 4], [], false, []⟩

def i_ref01_Tail_r : List Bool := [o_,o_,i_,o_,o_,o_,o_,o_,o_,o_,o_,o_,o_,o_,o_,o_,o_,o_,o_,o_,o_,o_,o_,o_,o_,o_,o_,o_,o_,o_,o_,o_,o_,o_,o_,o_]
def i_ref01_Tail_j1 : List Bool := [i_,o_,o_,i_,o_,o_,o_,o_,o_,o_,o_,o_,o_,o_,o_,o_,o_,o_,o_,o_,o_,o_,o_,o_,o_,o_,o_,o_,o_,o_,o_,o_,o_,o_,o_,o_]
def i_ref01_Tail_k0 : List Bool := [i_,o_,o_,i_,o_,o_,o_,o_,o_,o_,o_,o_,o_,o_,o_,o_,o_,o_,o_,o_,o_,o_,o_,o_,o_,o_,o_,o_,o_,o_,o_,o_,o_,o_,o_,o_]
def i_ref01_Tail_j0 : List Bool := [i_,o_,o_,i_,o_,o_,o_,o_,o_,o_,o_,o_,o_,o_,o_,o_,o_,o_,o_,o_,o_,o_,o_,o_,o_,o_,o_,o_,o_,o_,o_,o_,o_,o_,o_,o_]
def i_ref01_Tail_j3 : List Bool := [o_,o_,o_,i_,i_,i_,i_,o_,o_,o_,o_,o_,o_,o_,o_,o_,o_,o_,o_,o_,o_,o_,o_,o_,o_,o_,o_,o_,o_,o_,o_,o_,o_,o_,o_,o_]
def i_ref01_Tail_k1 : List Bool := [o_,o_,o_,i_,i_,i_,i_,o_,o_,o_,o_,o_,o_,o_,o_,o_,o_,o_,o_,o_,o_,o_,o_,o_,o_,o_,o_,o_,o_,o_,o_,o_,o_,o_,o_,o_]
def i_ref01_Tail_j2 : List Bool := [o_,o_,o_,i_,i_,o_,o_,o_,o_,o_,o_,o_,o_,o_,o_,o_,o_,o_,o_,o_,o_,o_,o_,o_,o_,o_,o_,o_,o_,o_,o_,o_,o_,o_,o_,o_]
abbrev s_ref01_Tail_R (t2 : AV) (h : Heap) : St := ⟨[u_,u_,t2, u_,u_,u_,u_,u_,u_,u_,u_,u_,u_,u_,u_,u_,u_,u_,u_,u_,u_,u_,u_,u_,u_,u_,u_,u_,u_,u_,u_,u_,u_,u_,u_,u_], h⟩
abbrev s_ref01_Tail_K0 (t0 t3 : AV) (h : Heap) : St := ⟨[t0, u_,u_,t3, u_,u_,u_,u_,u_,u_,u_,u_,u_,u_,u_,u_,u_,u_,u_,u_,u_,u_,u_,u_,u_,u_,u_,u_,u_,u_,u_,u_,u_,u_,u_,u_], h⟩
def i_ref01_Tail_b0 : IR := (.seq (.seq (.reg [] [⟨(some 8), .mv (.t 0),none,[]⟩,⟨(some 9), .cn (.t 3),none,[]⟩,⟨(some 10), .len false (.t 9),none,[]⟩,⟨(some 11), .bin .plain .add (.t 8) (.t 10),none,[]⟩,⟨(some 12), .bin .plain .rem (.t 11) (.k (.int .i64 64)),none,[]⟩,⟨(some 13), .bin .plain .neq (.t 12) (.k (.int .i64 56)),none,[]⟩]) (.cond (.t 13) .skip (.exit 0 i_ref01_Tail_j0))) (.block 1 i_ref01_Tail_j1 (.reg [] [⟨(some 14), .mv (.t 3),none,[]⟩,⟨(some 15), .litd 1 1 [(.int .u8 0)] [(0, (.k (.int .u8 0)))],none,[]⟩,⟨(some 16), .app 0 ty_uint8 1 1 (.t 14) (.t 15),none,[]⟩,⟨(some 3), .mv (.t 16),none,[]⟩])))

abbrev s_ref01_Tail_J0 (t0 t3 : AV) (h : Heap) : St := ⟨[t0, u_,u_,t3, u_,u_,u_,u_,u_,u_,u_,u_,u_,u_,u_,u_,u_,u_,u_,u_,u_,u_,u_,u_,u_,u_,u_,u_,u_,u_,u_,u_,u_,u_,u_,u_], h⟩
abbrev s_ref01_Tail_K1 (t3 t4 t5 t6 : AV) (h : Heap) : St := ⟨[u_,u_,u_,t3, t4, t5, t6, u_,u_,u_,u_,u_,u_,u_,u_,u_,u_,u_,u_,u_,u_,u_,u_,u_,u_,u_,u_,u_,u_,u_,u_,u_,u_,u_,u_,u_], h⟩
def i_ref01_Tail_b1 : IR := (.seq (.seq (.reg [] [⟨(some 21), .mv (.t 6),none,[]⟩,⟨(some 22), .bin .plain .geq (.t 21) (.k (.int .i64 0)),none,[]⟩]) (.cond (.t 22) .skip (.exit 2 i_ref01_Tail_j2))) (.seq (.block 3 i_ref01_Tail_j3 (.seq (.reg [] [⟨(some 25), .mv (.t 4),none,[]⟩,⟨(some 26), .mv (.t 6),none,[]⟩,⟨(some 27), .mv (.t 5),none,[]⟩,⟨(some 28), .bin .plain .rem (.t 27) (.k (.int .u64 256)),none,[]⟩,⟨(some 29), .conv .u8 (.t 28),none,[]⟩,⟨(some 30), .ia 1 (.t 25) (.t 26),none,[]⟩,⟨none, .store 1 (.t 30) (.t 29),none,[]⟩]) (.reg [] [⟨(some 31), .mv (.t 5),none,[]⟩,⟨(some 32), .bin .plain .quo (.t 31) (.k (.int .u64 256)),none,[]⟩,⟨(some 5), .mv (.t 32),none,[]⟩]))) (.reg [] [⟨(some 23), .mv (.t 6),none,[]⟩,⟨(some 24), .bin .plain .sub (.t 23) (.k (.int .i64 1)),none,[]⟩,⟨(some 6), .mv (.t 24),none,[]⟩])))

abbrev s_ref01_Tail_J2 (t3 t4 : AV) (h : Heap) : St := ⟨[u_,u_,u_,t3, t4, u_,u_,u_,u_,u_,u_,u_,u_,u_,u_,u_,u_,u_,u_,u_,u_,u_,u_,u_,u_,u_,u_,u_,u_,u_,u_,u_,u_,u_,u_,u_], h⟩
/-- heartwood/heartwoodref01.Tail -/
def i_ref01_Tail : Ev.Fn := ⟨1, 36, 2, (.seq (.reg [] [⟨(some 2), .cn (.k (.slice none 0 0)),none,[]⟩]) (.seq (.reg [] [⟨(some 7), .lit 0 ty_uint8 1 1 [(.int .u8 0)] [(0, (.k (.int .u8 128)))],none,[]⟩,⟨(some 3), .mv (.t 7),none,[]⟩]) (.seq (.block 0 i_ref01_Tail_j0 (.loop i_ref01_Tail_k0 i_ref01_Tail_b0)) (.seq (.reg [] [⟨(some 17), .make 1 ty_uint8 1 1 [(.int .u8 0)] (.k (.int .i64 8)) (.k (.int .i64 8)),none,[]⟩,⟨(some 4), .mv (.t 17),none,[]⟩]) (.seq (.reg [] [⟨(some 18), .mv (.t 0),none,[]⟩,⟨(some 19), .conv .u64 (.t 18),none,[]⟩,⟨(some 20), .bin .plain .mul (.k (.int .u64 8)) (.t 19),none,[]⟩,⟨(some 5), .mv (.t 20),none,[]⟩]) (.seq (.seq (.reg [] [⟨(some 6), .mv (.k (.int .i64 7)),none,[]⟩]) (.block 2 i_ref01_Tail_j2 (.loop i_ref01_Tail_k1 i_ref01_Tail_b1))) (.seq (.reg [] [⟨(some 33), .mv (.t 3),none,[]⟩,⟨(some 34), .cn (.t 4), none, [4]⟩,⟨(some 35), .app 0 ty_uint8 1 1 (.t 33) (.t 34),none,[]⟩,⟨(some 2), .cn (.t 35), none, [35]⟩]) (.ret i_ref01_Tail_r)))))))),
 [.tmp 2], [], false, []⟩

def i_ref01_Tables_Step_r : List Bool := [o_,o_,o_,o_,o_,o_,i_,o_,o_,o_,o_,o_,o_,o_,o_,o_,o_,o_,o_,o_,o_,o_,o_,o_,o_,o_,o_,o_,o_,o_,o_,o_,o_,o_,o_,o_,o_,o_,o_,o_,o_,o_,o_]
def i_ref01_Tables_Step_j1 : List Bool := [o_,o_,o_,i_,i_,o_,i_,i_,i_,i_,o_,o_,o_,o_,o_,o_,o_,o_,o_,o_,o_,o_,o_,o_,o_,o_,o_,o_,o_,o_,o_,o_,o_,o_,o_,o_,o_,o_,o_,o_,o_,o_,o_]
def i_ref01_Tables_Step_k0 : List Bool := [o_,o_,o_,i_,i_,o_,i_,i_,i_,i_,o_,o_,o_,o_,o_,o_,o_,o_,o_,o_,o_,o_,o_,o_,o_,o_,o_,o_,o_,o_,o_,o_,o_,o_,o_,o_,o_,o_,o_,o_,o_,o_,o_]
def i_ref01_Tables_Step_j0 : List Bool := [o_,o_,o_,o_,i_,o_,i_,o_,i_,o_,o_,o_,o_,o_,o_,o_,o_,o_,o_,o_,o_,o_,o_,o_,o_,o_,o_,o_,o_,o_,o_,o_,o_,o_,o_,o_,o_,o_,o_,o_,o_,o_,o_]
def i_ref01_Tables_Step_j3 : List Bool := [o_,o_,o_,o_,i_,o_,i_,o_,i_,o_,i_,o_,o_,o_,o_,o_,o_,o_,o_,o_,o_,o_,o_,o_,o_,o_,o_,o_,o_,o_,o_,o_,o_,o_,o_,o_,o_,o_,o_,o_,o_,o_,o_]
def i_ref01_Tables_Step_k1 : List Bool := [o_,o_,o_,o_,i_,o_,i_,o_,i_,o_,i_,o_,o_,o_,o_,o_,o_,o_,o_,o_,o_,o_,o_,o_,o_,o_,o_,o_,o_,o_,o_,o_,o_,o_,o_,o_,o_,o_,o_,o_,o_,o_,o_]
def i_ref01_Tables_Step_j2 : List Bool := [o_,o_,o_,o_,o_,o_,i_,o_,i_,o_,o_,o_,o_,o_,o_,o_,o_,o_,o_,o_,o_,o_,o_,o_,o_,o_,o_,o_,o_,o_,o_,o_,o_,o_,o_,o_,o_,o_,o_,o_,o_,o_,o_]
abbrev s_ref01_Tables_Step_R (t6 : AV) (h : Heap) : St := ⟨[u_,u_,u_,u_,u_,u_,t6, u_,u_,u_,u_,u_,u_,u_,u_,u_,u_,u_,u_,u_,u_,u_,u_,u_,u_,u_,u_,u_,u_,u_,u_,u_,u_,u_,u_,u_,u_,u_,u_,u_,u_,u_,u_], h⟩
abbrev s_ref01_Tables_Step_K0 (t3 t4 t6 t7 t8 t9 : AV) (h : Heap) : St := ⟨[u_,u_,u_,t3, t4, u_,t6, t7, t8, t9, u_,u_,u_,u_,u_,u_,u_,u_,u_,u_,u_,u_,u_,u_,u_,u_,u_,u_,u_,u_,u_,u_,u_,u_,u_,u_,u_,u_,u_,u_,u_,u_,u_], h⟩
def i_ref01_Tables_Step_b0 : IR := (.seq (.seq (.reg [] [⟨(some 14), .mv (.t 9),none,[]⟩,⟨(some 15), .bin .plain .lss (.t 14) (.k (.int .i64 64)),none,[]⟩]) (.cond (.t 15) .skip (.exit 0 i_ref01_Tables_Step_j0))) (.seq (.block 1 i_ref01_Tables_Step_j1 (.reg [] [⟨(some 18), .load true 8 (.t 8),none,[]⟩,⟨(some 19), .fa 0 (.t 3),none,[]⟩,⟨(some 20), .load false 1 (.t 19),none,[]⟩,⟨(some 21), .mv (.t 9),none,[]⟩,⟨(some 22), .ia 1 (.t 20) (.t 21),none,[]⟩,⟨(some 23), .load false 1 (.t 22),none,[]⟩,⟨(some 24), .cn (.t 7),none,[]⟩,⟨(some 25), .mv (.t 9),none,[]⟩,⟨(some 26), .ia 1 (.t 24) (.t 25),none,[]⟩,⟨(some 27), .load false 1 (.t 26),none,[]⟩,⟨(some 28), .qcall n_ref01_Round [(.t 18), (.t 23), (.t 27)] [],none,[]⟩,⟨none, .store 8 (.t 8) (.t 28),none,[]⟩])) (.reg [] [⟨(some 16), .mv (.t 9),none,[]⟩,⟨(some 17), .bin .plain .add (.t 16) (.k (.int .i64 1)),none,[]⟩,⟨(some 9), .mv (.t 17),none,[]⟩])))

abbrev s_ref01_Tables_Step_J0 (t4 t6 t8 : AV) (h : Heap) : St := ⟨[u_,u_,u_,u_,t4, u_,t6, u_,t8, u_,u_,u_,u_,u_,u_,u_,u_,u_,u_,u_,u_,u_,u_,u_,u_,u_,u_,u_,u_,u_,u_,u_,u_,u_,u_,u_,u_,u_,u_,u_,u_,u_,u_], h⟩
abbrev s_ref01_Tables_Step_K1 (t4 t6 t8 t10 : AV) (h : Heap) : St := ⟨[u_,u_,u_,u_,t4, u_,t6, u_,t8, u_,t10, u_,u_,u_,u_,u_,u_,u_,u_,u_,u_,u_,u_,u_,u_,u_,u_,u_,u_,u_,u_,u_,u_,u_,u_,u_,u_,u_,u_,u_,u_,u_,u_], h⟩
def i_ref01_Tables_Step_b1 : IR := (.seq (.seq (.reg [] [⟨(some 29), .mv (.t 10),none,[]⟩,⟨(some 30), .bin .plain .lss (.t 29) (.k (.int .i64 8)),none,[]⟩]) (.cond (.t 30) .skip (.exit 2 i_ref01_Tables_Step_j2))) (.seq (.block 3 i_ref01_Tables_Step_j3 (.reg [] [⟨(some 33), .mv (.t 10),none,[]⟩,⟨(some 34), .mv (.t 10),none,[]⟩,⟨(some 35), .iap 8 1 (.t 8) (.t 34),none,[]⟩,⟨(some 36), .load false 1 (.t 35),none,[]⟩,⟨(some 37), .mv (.t 10),none,[]⟩,⟨(some 38), .iap 8 1 (.t 4) (.t 37),none,[]⟩,⟨(some 39), .load false 1 (.t 38),none,[]⟩,⟨(some 40), .bin .plain .add (.t 36) (.t 39),none,[]⟩,⟨(some 41), .iap 8 1 (.t 8) (.t 33),none,[]⟩,⟨none, .store 1 (.t 41) (.t 40),none,[]⟩])) (.reg [] [⟨(some 31), .mv (.t 10),none,[]⟩,⟨(some 32), .bin .plain .add (.t 31) (.k (.int .i64 1)),none,[]⟩,⟨(some 10), .mv (.t 32),none,[]⟩])))

abbrev s_ref01_Tables_Step_J2 (t6 t8 : AV) (h : Heap) : St := ⟨[u_,u_,u_,u_,u_,u_,t6, u_,t8, u_,u_,u_,u_,u_,u_,u_,u_,u_,u_,u_,u_,u_,u_,u_,u_,u_,u_,u_,u_,u_,u_,u_,u_,u_,u_,u_,u_,u_,u_,u_,u_,u_,u_], h⟩
/-- (heartwood/heartwoodref01.Tables).Step -/
def i_ref01_Tables_Step : Ev.Fn := ⟨3, 43, 4, (.seq (.reg [] [⟨(some 3), .box 0 9 (.t 0),none,[]⟩,⟨(some 4), .box 1 8 (.t 1),none,[]⟩,⟨(some 6), .new 2 [(.int .u32 0), (.int .u32 0), (.int .u32 0), (.int .u32 0), (.int .u32 0), (.int .u32 0), (.int .u32 0), (.int .u32 0)],none,[]⟩]) (.seq (.reg [] [⟨(some 11), .cn (.t 2),none,[]⟩,⟨(some 12), .qcall n_ref01_Words [(.t 11)] [],none,[]⟩,⟨(some 7), .cn (.t 12),none,[]⟩]) (.seq (.reg [] [⟨(some 13), .load true 8 (.t 4),none,[]⟩,⟨(some 8), .new 3 [(.int .u32 0), (.int .u32 0), (.int .u32 0), (.int .u32 0), (.int .u32 0), (.int .u32 0), (.int .u32 0), (.int .u32 0)],none,[]⟩,⟨none, .store 8 (.t 8) (.t 13),none,[]⟩]) (.seq (.seq (.reg [] [⟨(some 9), .mv (.k (.int .i64 0)),none,[]⟩]) (.block 0 i_ref01_Tables_Step_j0 (.loop i_ref01_Tables_Step_k0 i_ref01_Tables_Step_b0))) (.seq (.seq (.reg [] [⟨(some 10), .mv (.k (.int .i64 0)),none,[]⟩]) (.block 2 i_ref01_Tables_Step_j2 (.loop i_ref01_Tables_Step_k1 i_ref01_Tables_Step_b1))) (.seq (.reg [] [⟨(some 42), .load true 8 (.t 8),none,[]⟩,⟨none, .store 8 (.t 6) (.t 42),none,[]⟩]) (.ret i_ref01_Tables_Step_r))))))),
 [.cell 6 true 8], [], false, []⟩

def i_ref01_Words_r : List Bool := [o_,o_,i_,o_,o_,o_,o_,o_,o_,o_,o_,o_,o_,o_,o_,o_,o_,o_,o_,o_,o_,o_,o_,o_,o_,o_,o_,o_,o_,o_,o_,o_,o_,o_,o_,o_,o_,o_,o_,o_,o_,o_,o_,o_,o_,o_,o_,o_,o_,o_,o_,o_,o_,o_,o_,o_,o_,o_,o_,o_,o_,o_,o_,o_,o_,o_,o_,o_,o_,o_,o_,o_,o_,o_,o_,o_,o_,o_,o_,o_,o_,o_,o_,o_,o_,o_,o_,o_,o_,o_,o_,o_,o_,o_,o_,o_]
def i_ref01_Words_j3 : List Bool := [i_,o_,o_,i_,i_,i_,i_,o_,o_,o_,o_,o_,o_,o_,o_,o_,o_,o_,o_,o_,o_,o_,o_,o_,o_,o_,o_,o_,o_,o_,o_,o_,o_,o_,o_,o_,o_,o_,o_,o_,o_,o_,o_,o_,o_,o_,o_,o_,o_,o_,o_,o_,o_,o_,o_,o_,o_,o_,o_,o_,o_,o_,o_,o_,o_,o_,o_,o_,o_,o_,o_,o_,o_,o_,o_,o_,o_,o_,o_,o_,o_,o_,o_,o_,o_,o_,o_,o_,o_,o_,o_,o_,o_,o_,o_,o_]
def i_ref01_Words_k1 : List Bool := [i_,o_,o_,i_,i_,i_,i_,o_,o_,o_,o_,o_,o_,o_,o_,o_,o_,o_,o_,o_,o_,o_,o_,o_,o_,o_,o_,o_,o_,o_,o_,o_,o_,o_,o_,o_,o_,o_,o_,o_,o_,o_,o_,o_,o_,o_,o_,o_,o_,o_,o_,o_,o_,o_,o_,o_,o_,o_,o_,o_,o_,o_,o_,o_,o_,o_,o_,o_,o_,o_,o_,o_,o_,o_,o_,o_,o_,o_,o_,o_,o_,o_,o_,o_,o_,o_,o_,o_,o_,o_,o_,o_,o_,o_,o_,o_]
def i_ref01_Words_j2 : List Bool := [i_,o_,o_,i_,i_,i_,o_,o_,o_,o_,o_,o_,o_,o_,o_,o_,o_,o_,o_,o_,o_,o_,o_,o_,o_,o_,o_,o_,o_,o_,o_,o_,o_,o_,o_,o_,o_,o_,o_,o_,o_,o_,o_,o_,o_,o_,o_,o_,o_,o_,o_,o_,o_,o_,o_,o_,o_,o_,o_,o_,o_,o_,o_,o_,o_,o_,o_,o_,o_,o_,o_,o_,o_,o_,o_,o_,o_,o_,o_,o_,o_,o_,o_,o_,o_,o_,o_,o_,o_,o_,o_,o_,o_,o_,o_,o_]
def i_ref01_Words_j1 : List Bool := [i_,o_,o_,i_,i_,o_,o_,o_,o_,o_,o_,o_,o_,o_,o_,o_,o_,o_,o_,o_,o_,o_,o_,o_,o_,o_,o_,o_,o_,o_,o_,o_,o_,o_,o_,o_,o_,o_,o_,o_,o_,o_,o_,o_,o_,o_,o_,o_,o_,o_,o_,o_,o_,o_,o_,o_,o_,o_,o_,o_,o_,o_,o_,o_,o_,o_,o_,o_,o_,o_,o_,o_,o_,o_,o_,o_,o_,o_,o_,o_,o_,o_,o_,o_,o_,o_,o_,o_,o_,o_,o_,o_,o_,o_,o_,o_]
def i_ref01_Words_k0 : List Bool := [i_,o_,o_,i_,i_,o_,o_,o_,o_,o_,o_,o_,o_,o_,o_,o_,o_,o_,o_,o_,o_,o_,o_,o_,o_,o_,o_,o_,o_,o_,o_,o_,o_,o_,o_,o_,o_,o_,o_,o_,o_,o_,o_,o_,o_,o_,o_,o_,o_,o_,o_,o_,o_,o_,o_,o_,o_,o_,o_,o_,o_,o_,o_,o_,o_,o_,o_,o_,o_,o_,o_,o_,o_,o_,o_,o_,o_,o_,o_,o_,o_,o_,o_,o_,o_,o_,o_,o_,o_,o_,o_,o_,o_,o_,o_,o_]
def i_ref01_Words_j0 : List Bool := [o_,o_,o_,i_,o_,o_,o_,o_,o_,o_,o_,o_,o_,o_,o_,o_,o_,o_,o_,o_,o_,o_,o_,o_,o_,o_,o_,o_,o_,o_,o_,o_,o_,o_,o_,o_,o_,o_,o_,o_,o_,o_,o_,o_,o_,o_,o_,o_,o_,o_,o_,o_,o_,o_,o_,o_,o_,o_,o_,o_,o_,o_,o_,o_,o_,o_,o_,o_,o_,o_,o_,o_,o_,o_,o_,o_,o_,o_,o_,o_,o_,o_,o_,o_,o_,o_,o_,o_,o_,o_,o_,o_,o_,o_,o_,o_]
def i_ref01_Words_j5 : List Bool := [o_,o_,o_,i_,o_,o_,o_,i_,o_,o_,o_,o_,o_,o_,o_,o_,o_,o_,o_,o_,o_,o_,o_,o_,o_,o_,o_,o_,o_,o_,o_,o_,o_,o_,o_,o_,o_,o_,o_,o_,o_,o_,o_,o_,o_,o_,o_,o_,o_,o_,o_,o_,o_,o_,o_,o_,o_,o_,o_,o_,o_,o_,o_,o_,o_,o_,o_,o_,o_,o_,o_,o_,o_,o_,o_,o_,o_,o_,o_,o_,o_,o_,o_,o_,o_,o_,o_,o_,o_,o_,o_,o_,o_,o_,o_,o_]
def i_ref01_Words_k2 : List Bool := [o_,o_,o_,i_,o_,o_,o_,i_,o_,o_,o_,o_,o_,o_,o_,o_,o_,o_,o_,o_,o_,o_,o_,o_,o_,o_,o_,o_,o_,o_,o_,o_,o_,o_,o_,o_,o_,o_,o_,o_,o_,o_,o_,o_,o_,o_,o_,o_,o_,o_,o_,o_,o_,o_,o_,o_,o_,o_,o_,o_,o_,o_,o_,o_,o_,o_,o_,o_,o_,o_,o_,o_,o_,o_,o_,o_,o_,o_,o_,o_,o_,o_,o_,o_,o_,o_,o_,o_,o_,o_,o_,o_,o_,o_,o_,o_]
def i_ref01_Words_j4 : List Bool := [o_,o_,o_,i_,o_,o_,o_,o_,o_,o_,o_,o_,o_,o_,o_,o_,o_,o_,o_,o_,o_,o_,o_,o_,o_,o_,o_,o_,o_,o_,o_,o_,o_,o_,o_,o_,o_,o_,o_,o_,o_,o_,o_,o_,o_,o_,o_,o_,o_,o_,o_,o_,o_,o_,o_,o_,o_,o_,o_,o_,o_,o_,o_,o_,o_,o_,o_,o_,o_,o_,o_,o_,o_,o_,o_,o_,o_,o_,o_,o_,o_,o_,o_,o_,o_,o_,o_,o_,o_,o_,o_,o_,o_,o_,o_,o_]
abbrev s_ref01_Words_R (t2 : AV) (h : Heap) : St := ⟨[u_,u_,t2, u_,u_,u_,u_,u_,u_,u_,u_,u_,u_,u_,u_,u_,u_,u_,u_,u_,u_,u_,u_,u_,u_,u_,u_,u_,u_,u_,u_,u_,u_,u_,u_,u_,u_,u_,u_,u_,u_,u_,u_,u_,u_,u_,u_,u_,u_,u_,u_,u_,u_,u_,u_,u_,u_,u_,u_,u_,u_,u_,u_,u_,u_,u_,u_,u_,u_,u_,u_,u_,u_,u_,u_,u_,u_,u_,u_,u_,u_,u_,u_,u_,u_,u_,u_,u_,u_,u_,u_,u_,u_,u_,u_,u_], h⟩
abbrev s_ref01_Words_K1 (t0 t3 t4 t5 t6 : AV) (h : Heap) : St := ⟨[t0, u_,u_,t3, t4, t5, t6, u_,u_,u_,u_,u_,u_,u_,u_,u_,u_,u_,u_,u_,u_,u_,u_,u_,u_,u_,u_,u_,u_,u_,u_,u_,u_,u_,u_,u_,u_,u_,u_,u_,u_,u_,u_,u_,u_,u_,u_,u_,u_,u_,u_,u_,u_,u_,u_,u_,u_,u_,u_,u_,u_,u_,u_,u_,u_,u_,u_,u_,u_,u_,u_,u_,u_,u_,u_,u_,u_,u_,u_,u_,u_,u_,u_,u_,u_,u_,u_,u_,u_,u_,u_,u_,u_,u_,u_,u_], h⟩
def i_ref01_Words_b1 : IR := (.seq (.seq (.reg [] [⟨(some 14), .mv (.t 6),none,[]⟩,⟨(some 15), .bin .plain .lss (.t 14) (.k (.int .i64 4)),none,[]⟩]) (.cond (.t 15) .skip (.exit 2 i_ref01_Words_j2))) (.seq (.block 3 i_ref01_Words_j3 (.reg [] [⟨(some 18), .mv (.t 5),none,[]⟩,⟨(some 19), .bin .plain .mul (.k (.int .u32 256)) (.t 18),none,[]⟩,⟨(some 20), .cn (.t 0),none,[]⟩,⟨(some 21), .mv (.t 4),none,[]⟩,⟨(some 22), .bin .plain .mul (.k (.int .i64 4)) (.t 21),none,[]⟩,⟨(some 23), .mv (.t 6),none,[]⟩,⟨(some 24), .bin .plain .add (.t 22) (.t 23),none,[]⟩,⟨(some 25), .ia 1 (.t 20) (.t 24),none,[]⟩,⟨(some 26), .load false 1 (.t 25),none,[]⟩,⟨(some 27), .conv .u32 (.t 26),none,[]⟩,⟨(some 28), .bin .plain .add (.t 19) (.t 27),none,[]⟩,⟨(some 5), .mv (.t 28),none,[]⟩])) (.reg [] [⟨(some 16), .mv (.t 6),none,[]⟩,⟨(some 17), .bin .plain .add (.t 16) (.k (.int .i64 1)),none,[]⟩,⟨(some 6), .mv (.t 17),none,[]⟩])))

abbrev s_ref01_Words_J2 (t0 t3 t4 t5 : AV) (h : Heap) : St := ⟨[t0, u_,u_,t3, t4, t5, u_,u_,u_,u_,u_,u_,u_,u_,u_,u_,u_,u_,u_,u_,u_,u_,u_,u_,u_,u_,u_,u_,u_,u_,u_,u_,u_,u_,u_,u_,u_,u_,u_,u_,u_,u_,u_,u_,u_,u_,u_,u_,u_,u_,u_,u_,u_,u_,u_,u_,u_,u_,u_,u_,u_,u_,u_,u_,u_,u_,u_,u_,u_,u_,u_,u_,u_,u_,u_,u_,u_,u_,u_,u_,u_,u_,u_,u_,u_,u_,u_,u_,u_,u_,u_,u_,u_,u_,u_,u_], h⟩
abbrev s_ref01_Words_J1 (t0 t3 t4 : AV) (h : Heap) : St := ⟨[t0, u_,u_,t3, t4, u_,u_,u_,u_,u_,u_,u_,u_,u_,u_,u_,u_,u_,u_,u_,u_,u_,u_,u_,u_,u_,u_,u_,u_,u_,u_,u_,u_,u_,u_,u_,u_,u_,u_,u_,u_,u_,u_,u_,u_,u_,u_,u_,u_,u_,u_,u_,u_,u_,u_,u_,u_,u_,u_,u_,u_,u_,u_,u_,u_,u_,u_,u_,u_,u_,u_,u_,u_,u_,u_,u_,u_,u_,u_,u_,u_,u_,u_,u_,u_,u_,u_,u_,u_,u_,u_,u_,u_,u_,u_,u_], h⟩
abbrev s_ref01_Words_K0 (t0 t3 t4 : AV) (h : Heap) : St := ⟨[t0, u_,u_,t3, t4, u_,u_,u_,u_,u_,u_,u_,u_,u_,u_,u_,u_,u_,u_,u_,u_,u_,u_,u_,u_,u_,u_,u_,u_,u_,u_,u_,u_,u_,u_,u_,u_,u_,u_,u_,u_,u_,u_,u_,u_,u_,u_,u_,u_,u_,u_,u_,u_,u_,u_,u_,u_,u_,u_,u_,u_,u_,u_,u_,u_,u_,u_,u_,u_,u_,u_,u_,u_,u_,u_,u_,u_,u_,u_,u_,u_,u_,u_,u_,u_,u_,u_,u_,u_,u_,u_,u_,u_,u_,u_,u_], h⟩
def i_ref01_Words_b0 : IR := (.seq (.seq (.reg [] [⟨(some 10), .mv (.t 4),none,[]⟩,⟨(some 11), .bin .plain .lss (.t 10) (.k (.int .i64 16)),none,[]⟩]) (.cond (.t 11) .skip (.exit 0 i_ref01_Words_j0))) (.seq (.block 1 i_ref01_Words_j1 (.seq (.reg [] [⟨(some 5), .mv (.k (.int .u32 0)),none,[]⟩]) (.seq (.seq (.reg [] [⟨(some 6), .mv (.k (.int .i64 0)),none,[]⟩]) (.block 2 i_ref01_Words_j2 (.loop i_ref01_Words_k1 i_ref01_Words_b1))) (.reg [] [⟨(some 29), .mv (.t 3),none,[]⟩,⟨(some 30), .mv (.t 5),none,[]⟩,⟨(some 31), .litd 1 1 [(.int .u32 0)] [(0, (.t 30))],none,[]⟩,⟨(some 32), .app 0 ty_uint32 1 4 (.t 29) (.t 31),none,[]⟩,⟨(some 3), .mv (.t 32),none,[]⟩])))) (.reg [] [⟨(some 12), .mv (.t 4),none,[]⟩,⟨(some 13), .bin .plain .add (.t 12) (.k (.int .i64 1)),none,[]⟩,⟨(some 4), .mv (.t 13),none,[]⟩])))

abbrev s_ref01_Words_J0 (t3 : AV) (h : Heap) : St := ⟨[u_,u_,u_,t3, u_,u_,u_,u_,u_,u_,u_,u_,u_,u_,u_,u_,u_,u_,u_,u_,u_,u_,u_,u_,u_,u_,u_,u_,u_,u_,u_,u_,u_,u_,u_,u_,u_,u_,u_,u_,u_,u_,u_,u_,u_,u_,u_,u_,u_,u_,u_,u_,u_,u_,u_,u_,u_,u_,u_,u_,u_,u_,u_,u_,u_,u_,u_,u_,u_,u_,u_,u_,u_,u_,u_,u_,u_,u_,u_,u_,u_,u_,u_,u_,u_,u_,u_,u_,u_,u_,u_,u_,u_,u_,u_,u_], h⟩
abbrev s_ref01_Words_K2 (t3 t7 : AV) (h : Heap) : St := ⟨[u_,u_,u_,t3, u_,u_,u_,t7, u_,u_,u_,u_,u_,u_,u_,u_,u_,u_,u_,u_,u_,u_,u_,u_,u_,u_,u_,u_,u_,u_,u_,u_,u_,u_,u_,u_,u_,u_,u_,u_,u_,u_,u_,u_,u_,u_,u_,u_,u_,u_,u_,u_,u_,u_,u_,u_,u_,u_,u_,u_,u_,u_,u_,u_,u_,u_,u_,u_,u_,u_,u_,u_,u_,u_,u_,u_,u_,u_,u_,u_,u_,u_,u_,u_,u_,u_,u_,u_,u_,u_,u_,u_,u_,u_,u_,u_], h⟩
def i_ref01_Words_b2 : IR := (.seq (.seq (.reg [] [⟨(some 33), .mv (.t 7),none,[]⟩,⟨(some 34), .bin .plain .lss (.t 33) (.k (.int .i64 64)),none,[]⟩]) (.cond (.t 34) .skip (.exit 4 i_ref01_Words_j4))) (.seq (.block 5 i_ref01_Words_j5 (.seq (.reg [] [⟨(some 37), .cn (.t 3),none,[]⟩,⟨(some 38), .mv (.t 7),none,[]⟩,⟨(some 39), .bin .plain .sub (.t 38) (.k (.int .i64 15)),none,[]⟩,⟨(some 40), .ia 1 (.t 37) (.t 39),none,[]⟩,⟨(some 41), .load false 1 (.t 40),none,[]⟩,⟨(some 42), .qcall n_ref01_turn [(.t 41), (.k (.int .i64 7))] [],none,[]⟩,⟨(some 43), .cn (.t 3),none,[]⟩,⟨(some 44), .mv (.t 7),none,[]⟩,⟨(some 45), .bin .plain .sub (.t 44) (.k (.int .i64 15)),none,[]⟩,⟨(some 46), .ia 1 (.t 43) (.t 45),none,[]⟩,⟨(some 47), .load false 1 (.t 46),none,[]⟩,⟨(some 48), .qcall n_ref01_turn [(.t 47), (.k (.int .i64 18))] [],none,[]⟩,⟨(some 49), .bin .plain .xor (.t 42) (.t 48),none,[]⟩,⟨(some 50), .cn (.t 3),none,[]⟩,⟨(some 51), .mv (.t 7),none,[]⟩,⟨(some 52), .bin .plain .sub (.t 51) (.k (.int .i64 15)),none,[]⟩,⟨(some 53), .ia 1 (.t 50) (.t 52),none,[]⟩,⟨(some 54), .load false 1 (.t 53),none,[]⟩,⟨(some 55), .bin .plain .shr (.t 54) (.k (.int .u64 3)),none,[]⟩,⟨(some 56), .bin .plain .xor (.t 49) (.t 55),none,[]⟩,⟨(some 8), .mv (.t 56),none,[]⟩]) (.seq (.reg [] [⟨(some 57), .cn (.t 3),none,[]⟩,⟨(some 58), .mv (.t 7),none,[]⟩,⟨(some 59), .bin .plain .sub (.t 58) (.k (.int .i64 2)),none,[]⟩,⟨(some 60), .ia 1 (.t 57) (.t 59),none,[]⟩,⟨(some 61), .load false 1 (.t 60),none,[]⟩,⟨(some 62), .qcall n_ref01_turn [(.t 61), (.k (.int .i64 17))] [],none,[]⟩,⟨(some 63), .cn (.t 3),none,[]⟩,⟨(some 64), .mv (.t 7),none,[]⟩,⟨(some 65), .bin .plain .sub (.t 64) (.k (.int .i64 2)),none,[]⟩,⟨(some 66), .ia 1 (.t 63) (.t 65),none,[]⟩,⟨(some 67), .load false 1 (.t 66),none,[]⟩,⟨(some 68), .qcall n_ref01_turn [(.t 67), (.k (.int .i64 19))] [],none,[]⟩,⟨(some 69), .bin .plain .xor (.t 62) (.t 68),none,[]⟩,⟨(some 70), .cn (.t 3),none,[]⟩,⟨(some 71), .mv (.t 7),none,[]⟩,⟨(some 72), .bin .plain .sub (.t 71) (.k (.int .i64 2)),none,[]⟩,⟨(some 73), .ia 1 (.t 70) (.t 72),none,[]⟩,⟨(some 74), .load false 1 (.t 73),none,[]⟩,⟨(some 75), .bin .plain .shr (.t 74) (.k (.int .u64 10)),none,[]⟩,⟨(some 76), .bin .plain .xor (.t 69) (.t 75),none,[]⟩,⟨(some 9), .mv (.t 76),none,[]⟩]) (.reg [] [⟨(some 77), .mv (.t 3),none,[]⟩,⟨(some 78), .cn (.t 3),none,[]⟩,⟨(some 79), .mv (.t 7),none,[]⟩,⟨(some 80), .bin .plain .sub (.t 79) (.k (.int .i64 16)),none,[]⟩,⟨(some 81), .ia 1 (.t 78) (.t 80),none,[]⟩,⟨(some 82), .load false 1 (.t 81),none,[]⟩,⟨(some 83), .mv (.t 8),none,[]⟩,⟨(some 84), .bin .plain .add (.t 82) (.t 83),none,[]⟩,⟨(some 85), .cn (.t 3),none,[]⟩,⟨(some 86), .mv (.t 7),none,[]⟩,⟨(some 87), .bin .plain .sub (.t 86) (.k (.int .i64 7)),none,[]⟩,⟨(some 88), .ia 1 (.t 85) (.t 87),none,[]⟩,⟨(some 89), .load false 1 (.t 88),none,[]⟩,⟨(some 90), .bin .plain .add (.t 84) (.t 89),none,[]⟩,⟨(some 91), .mv (.t 9),none,[]⟩,⟨(some 92), .bin .plain .add (.t 90) (.t 91),none,[]⟩,⟨(some 93), .litd 1 1 [(.int .u32 0)] [(0, (.t 92))],none,[]⟩,⟨(some 94), .app 0 ty_uint32 1 4 (.t 77) (.t 93),none,[]⟩,⟨(some 3), .mv (.t 94),none,[]⟩])))) (.reg [] [⟨(some 35), .mv (.t 7),none,[]⟩,⟨(some 36), .bin .plain .add (.t 35) (.k (.int .i64 1)),none,[]⟩,⟨(some 7), .mv (.t 36),none,[]⟩])))

abbrev s_ref01_Words_J4 (t3 : AV) (h : Heap) : St := ⟨[u_,u_,u_,t3, u_,u_,u_,u_,u_,u_,u_,u_,u_,u_,u_,u_,u_,u_,u_,u_,u_,u_,u_,u_,u_,u_,u_,u_,u_,u_,u_,u_,u_,u_,u_,u_,u_,u_,u_,u_,u_,u_,u_,u_,u_,u_,u_,u_,u_,u_,u_,u_,u_,u_,u_,u_,u_,u_,u_,u_,u_,u_,u_,u_,u_,u_,u_,u_,u_,u_,u_,u_,u_,u_,u_,u_,u_,u_,u_,u_,u_,u_,u_,u_,u_,u_,u_,u_,u_,u_,u_,u_,u_,u_,u_,u_], h⟩
/-- heartwood/heartwoodref01.Words -/
def i_ref01_Words : Ev.Fn := ⟨1, 96, 1, (.seq (.reg [] [⟨(some 2), .cn (.k (.slice none 0 0)),none,[]⟩]) (.seq (.reg [] [⟨(some 3), .mv (.k (.slice none 0 0)),none,[]⟩]) (.seq (.seq (.reg [] [⟨(some 4), .mv (.k (.int .i64 0)),none,[]⟩]) (.block 0 i_ref01_Words_j0 (.loop i_ref01_Words_k0 i_ref01_Words_b0))) (.seq (.seq (.reg [] [⟨(some 7), .mv (.k (.int .i64 16)),none,[]⟩]) (.block 4 i_ref01_Words_j4 (.loop i_ref01_Words_k2 i_ref01_Words_b2))) (.seq (.reg [] [⟨(some 95), .cn (.t 3), none, [3]⟩,⟨(some 2), .cn (.t 95), none, [95]⟩]) (.ret i_ref01_Words_r)))))),
 [.tmp 2], [], false, []⟩

def i_ref01_turn_r : List Bool := [o_,o_,o_,o_,i_,o_,o_,o_,o_,o_,o_,o_,o_]
/-- heartwood/heartwoodref01.turn -/
def i_ref01_turn : Ev.Fn := ⟨2, 13, 0, (.seq (.reg [] [⟨(some 4), .mv (.k (.int .u32 0)),none,[]⟩]) (.seq (.reg [] [⟨(some 5), .mv (.t 0),none,[]⟩,⟨(some 6), .mv (.t 1),none,[]⟩,⟨(some 7), .bin .plain .shr (.t 5) (.t 6),none,[]⟩,⟨(some 8), .mv (.t 0),none,[]⟩,⟨(some 9), .mv (.t 1),none,[]⟩,⟨(some 10), .bin .plain .sub (.k (.int .i64 32)) (.t 9),none,[]⟩,⟨(some 11), .bin .plain .shl (.t 8) (.t 10),none,[]⟩,⟨(some 12), .bin .plain .or (.t 7) (.t 11),none,[]⟩,⟨(some 4), .mv (.t 12),none,[]⟩]) (.ret i_ref01_turn_r))),
 [.tmp 4], [], false, []⟩

def i_ref01_Round_r : List Bool := [o_,o_,o_,o_,o_,o_,i_,o_,o_,o_,o_,o_,o_,o_,o_,o_,o_,o_,o_,o_,o_,o_,o_,o_,o_,o_,o_,o_,o_,o_,o_,o_,o_,o_,o_,o_,o_,o_,o_,o_,o_,o_,o_,o_,o_,o_,o_,o_,o_,o_,o_,o_,o_,o_,o_,o_,o_,o_,o_,o_,o_,o_,o_,o_,o_,o_,o_,o_,o_,o_,o_,o_,o_,o_,o_,o_,o_,o_,o_,o_,o_,o_,o_]
/-- heartwood/heartwoodref01.Round -/
def i_ref01_Round : Ev.Fn := ⟨3, 83, 2, (.seq (.reg [] [⟨(some 3), .box 0 8 (.t 0),none,[]⟩,⟨(some 6), .new 1 [(.int .u32 0), (.int .u32 0), (.int .u32 0), (.int .u32 0), (.int .u32 0), (.int .u32 0), (.int .u32 0), (.int .u32 0)],none,[]⟩]) (.seq (.reg [] [⟨(some 11), .iap 8 1 (.t 3) (.k (.int .i64 0)),none,[]⟩,⟨(some 12), .load false 1 (.t 11),none,[]⟩,⟨(some 7), .mv (.t 12),none,[]⟩]) (.seq (.reg [] [⟨(some 13), .iap 8 1 (.t 3) (.k (.int .i64 4)),none,[]⟩,⟨(some 14), .load false 1 (.t 13),none,[]⟩,⟨(some 8), .mv (.t 14),none,[]⟩]) (.seq (.reg [] [⟨(some 15), .iap 8 1 (.t 3) (.k (.int .i64 7)),none,[]⟩,⟨(some 16), .load false 1 (.t 15),none,[]⟩,⟨(some 17), .mv (.t 8),none,[]⟩,⟨(some 18), .qcall n_ref01_turn [(.t 17), (.k (.int .i64 6))] [],none,[]⟩,⟨(some 19), .mv (.t 8),none,[]⟩,⟨(some 20), .qcall n_ref01_turn [(.t 19), (.k (.int .i64 11))] [],none,[]⟩,⟨(some 21), .bin .plain .xor (.t 18) (.t 20),none,[]⟩,⟨(some 22), .mv (.t 8),none,[]⟩,⟨(some 23), .qcall n_ref01_turn [(.t 22), (.k (.int .i64 25))] [],none,[]⟩,⟨(some 24), .bin .plain .xor (.t 21) (.t 23),none,[]⟩,⟨(some 25), .bin .plain .add (.t 16) (.t 24),none,[]⟩,⟨(some 26), .mv (.t 8),none,[]⟩,⟨(some 27), .iap 8 1 (.t 3) (.k (.int .i64 5)),none,[]⟩,⟨(some 28), .load false 1 (.t 27),none,[]⟩,⟨(some 29), .bin .plain .and (.t 26) (.t 28),none,[]⟩,⟨(some 30), .mv (.t 8),none,[]⟩,⟨(some 31), .un .xor (.t 30),none,[]⟩,⟨(some 32), .iap 8 1 (.t 3) (.k (.int .i64 6)),none,[]⟩,⟨(some 33), .load false 1 (.t 32),none,[]⟩,⟨(some 34), .bin .plain .and (.t 31) (.t 33),none,[]⟩,⟨(some 35), .bin .plain .xor (.t 29) (.t 34),none,[]⟩,⟨(some 36), .bin .plain .add (.t 25) (.t 35),none,[]⟩,⟨(some 37), .mv (.t 1),none,[]⟩,⟨(some 38), .bin .plain .add (.t 36) (.t 37),none,[]⟩,⟨(some 39), .mv (.t 2),none,[]⟩,⟨(some 40), .bin .plain .add (.t 38) (.t 39),none,[]⟩,⟨(some 9), .mv (.t 40),none,[]⟩]) (.seq (.reg [] [⟨(some 41), .mv (.t 7),none,[]⟩,⟨(some 42), .qcall n_ref01_turn [(.t 41), (.k (.int .i64 2))] [],none,[]⟩,⟨(some 43), .mv (.t 7),none,[]⟩,⟨(some 44), .qcall n_ref01_turn [(.t 43), (.k (.int .i64 13))] [],none,[]⟩,⟨(some 45), .bin .plain .xor (.t 42) (.t 44),none,[]⟩,⟨(some 46), .mv (.t 7),none,[]⟩,⟨(some 47), .qcall n_ref01_turn [(.t 46), (.k (.int .i64 22))] [],none,[]⟩,⟨(some 48), .bin .plain .xor (.t 45) (.t 47),none,[]⟩,⟨(some 49), .mv (.t 7),none,[]⟩,⟨(some 50), .iap 8 1 (.t 3) (.k (.int .i64 1)),none,[]⟩,⟨(some 51), .load false 1 (.t 50),none,[]⟩,⟨(some 52), .bin .plain .and (.t 49) (.t 51),none,[]⟩,⟨(some 53), .mv (.t 7),none,[]⟩,⟨(some 54), .iap 8 1 (.t 3) (.k (.int .i64 2)),none,[]⟩,⟨(some 55), .load false 1 (.t 54),none,[]⟩,⟨(some 56), .bin .plain .and (.t 53) (.t 55),none,[]⟩,⟨(some 57), .bin .plain .xor (.t 52) (.t 56),none,[]⟩,⟨(some 58), .iap 8 1 (.t 3) (.k (.int .i64 1)),none,[]⟩,⟨(some 59), .load false 1 (.t 58),none,[]⟩,⟨(some 60), .iap 8 1 (.t 3) (.k (.int .i64 2)),none,[]⟩,⟨(some 61), .load false 1 (.t 60),none,[]⟩,⟨(some 62), .bin .plain .and (.t 59) (.t 61),none,[]⟩,⟨(some 63), .bin .plain .xor (.t 57) (.t 62),none,[]⟩,⟨(some 64), .bin .plain .add (.t 48) (.t 63),none,[]⟩,⟨(some 10), .mv (.t 64),none,[]⟩]) (.seq (.reg [] [⟨(some 65), .mv (.t 9),none,[]⟩,⟨(some 66), .mv (.t 10),none,[]⟩,⟨(some 67), .bin .plain .add (.t 65) (.t 66),none,[]⟩,⟨(some 68), .mv (.t 7),none,[]⟩,⟨(some 69), .iap 8 1 (.t 3) (.k (.int .i64 1)),none,[]⟩,⟨(some 70), .load false 1 (.t 69),none,[]⟩,⟨(some 71), .iap 8 1 (.t 3) (.k (.int .i64 2)),none,[]⟩,⟨(some 72), .load false 1 (.t 71),none,[]⟩,⟨(some 73), .iap 8 1 (.t 3) (.k (.int .i64 3)),none,[]⟩,⟨(some 74), .load false 1 (.t 73),none,[]⟩,⟨(some 75), .mv (.t 9),none,[]⟩,⟨(some 76), .bin .plain .add (.t 74) (.t 75),none,[]⟩,⟨(some 77), .mv (.t 8),none,[]⟩,⟨(some 78), .iap 8 1 (.t 3) (.k (.int .i64 5)),none,[]⟩,⟨(some 79), .load false 1 (.t 78),none,[]⟩,⟨(some 80), .iap 8 1 (.t 3) (.k (.int .i64 6)),none,[]⟩,⟨(some 81), .load false 1 (.t 80),none,[]⟩,⟨(some 82), .build [(.int .u32 0), (.int .u32 0), (.int .u32 0), (.int .u32 0), (.int .u32 0), (.int .u32 0), (.int .u32 0), (.int .u32 0)] [(0, 1, (.t 67)), (1, 1, (.t 68)), (2, 1, (.t 70)), (3, 1, (.t 72)), (4, 1, (.t 76)), (5, 1, (.t 77)), (6, 1, (.t 79)), (7, 1, (.t 81))],none,[]⟩,⟨none, .store 8 (.t 6) (.t 82),none,[]⟩]) (.ret i_ref01_Round_r))))))),
 [.cell 6 true 8], [], false, []⟩

def i_ref03_Value_r : List Bool := [o_,o_,i_,o_,o_,o_]
/-- heartwood/heartwoodref03.Value -/
def i_ref03_Value : Ev.Fn := ⟨1, 6, 1, (.seq (.reg [] [⟨(some 2), .cn (.k (.slice none 0 0)),none,[]⟩]) (.seq (.reg [] [⟨(some 3), .lit 0 ty_uint8 1 1 [(.int .u8 0)] [(0, (.k (.int .u8 0)))],none,[]⟩,⟨(some 4), .cn (.t 0),none,[]⟩,⟨(some 5), .app 0 ty_uint8 1 1 (.t 3) (.t 4),none,[]⟩,⟨(some 2), .cn (.t 5), none, [5]⟩]) (.ret i_ref03_Value_r))),
 [.tmp 2], [], false, []⟩

def i_ref03_Pair_r : List Bool := [o_,o_,o_,o_,i_,o_,o_,o_,o_,o_,o_,o_,o_]
/-- heartwood/heartwoodref03.Pair -/
def i_ref03_Pair : Ev.Fn := ⟨2, 13, 1, (.seq (.reg [] [⟨(some 4), .cn (.k (.slice none 0 0)),none,[]⟩]) (.seq (.reg [] [⟨(some 6), .lit 0 ty_uint8 1 1 [(.int .u8 0)] [(0, (.k (.int .u8 1)))],none,[]⟩,⟨(some 7), .cn (.t 0),none,[]⟩,⟨(some 8), .qcall n_ref02_Bytes [(.t 7)] [],none,[]⟩,⟨(some 9), .app 0 ty_uint8 1 1 (.t 6) (.t 8),none,[]⟩,⟨(some 5), .mv (.t 9),none,[]⟩]) (.seq (.reg [] [⟨(some 10), .mv (.t 5),none,[]⟩,⟨(some 11), .cn (.t 1),none,[]⟩,⟨(some 12), .app 0 ty_uint8 1 1 (.t 10) (.t 11),none,[]⟩,⟨(some 4), .cn (.t 12), none, [12]⟩]) (.ret i_ref03_Pair_r)))),
 [.tmp 4], [], false, []⟩

def i_ref02_Bytes_r : List Bool := [o_,o_,i_,o_,o_,o_,o_,o_,o_]
/-- heartwood/heartwoodref02.Bytes -/
def i_ref02_Bytes : Ev.Fn := ⟨1, 9, 2, (.seq (.reg [] [⟨(some 2), .cn (.k (.slice none 0 0)),none,[]⟩]) (.seq (.reg [] [⟨(some 3), .cn (.t 0),none,[]⟩,⟨(some 4), .len false (.t 3),none,[]⟩,⟨(some 5), .conv .u64 (.t 4),none,[]⟩,⟨(some 6), .qcall n_ref02_Number [(.t 5)] [0],none,[]⟩,⟨(some 7), .cn (.t 0),none,[]⟩,⟨(some 8), .app 1 ty_uint8 1 1 (.t 6) (.t 7),none,[]⟩,⟨(some 2), .cn (.t 8), none, [8]⟩]) (.ret i_ref02_Bytes_r))),
 [.tmp 2], [], false, []⟩

def i_ref02_Number_r : List Bool := [o_,o_,i_,o_,o_,o_,o_,o_,o_,o_,o_,o_,o_,o_,o_,o_,o_,o_,o_,o_,o_,o_,o_,o_,o_,o_]
def i_ref02_Number_j1 : List Bool := [i_,o_,o_,i_,o_,o_,o_,o_,o_,o_,o_,o_,o_,o_,o_,o_,o_,o_,o_,o_,o_,o_,o_,o_,o_,o_]
def i_ref02_Number_k0 : List Bool := [i_,o_,o_,i_,o_,o_,o_,o_,o_,o_,o_,o_,o_,o_,o_,o_,o_,o_,o_,o_,o_,o_,o_,o_,o_,o_]
def i_ref02_Number_j0 : List Bool := [o_,o_,o_,i_,o_,o_,o_,o_,o_,o_,o_,o_,o_,o_,o_,o_,o_,o_,o_,o_,o_,o_,o_,o_,o_,o_]
abbrev s_ref02_Number_R (t2 : AV) (h : Heap) : St := ⟨[u_,u_,t2, u_,u_,u_,u_,u_,u_,u_,u_,u_,u_,u_,u_,u_,u_,u_,u_,u_,u_,u_,u_,u_,u_,u_], h⟩
abbrev s_ref02_Number_K0 (t0 t3 : AV) (h : Heap) : St := ⟨[t0, u_,u_,t3, u_,u_,u_,u_,u_,u_,u_,u_,u_,u_,u_,u_,u_,u_,u_,u_,u_,u_,u_,u_,u_,u_], h⟩
def i_ref02_Number_b0 : IR := (.seq (.seq (.reg [] [⟨(some 9), .mv (.t 0),none,[]⟩,⟨(some 10), .bin .plain .gtr (.t 9) (.k (.int .u64 0)),none,[]⟩]) (.cond (.t 10) .skip (.exit 0 i_ref02_Number_j0))) (.block 1 i_ref02_Number_j1 (.seq (.reg [] [⟨(some 11), .mv (.t 0),none,[]⟩,⟨(some 12), .bin .plain .rem (.t 11) (.k (.int .u64 256)),none,[]⟩,⟨(some 13), .conv .u8 (.t 12),none,[]⟩,⟨(some 14), .lit 1 ty_uint8 1 1 [(.int .u8 0)] [(0, (.t 13))],none,[]⟩,⟨(some 15), .cn (.t 3),none,[]⟩,⟨(some 16), .app 1 ty_uint8 1 1 (.t 14) (.t 15),none,[]⟩,⟨(some 3), .cn (.t 16), none, [16]⟩]) (.reg [] [⟨(some 17), .mv (.t 0),none,[]⟩,⟨(some 18), .bin .plain .quo (.t 17) (.k (.int .u64 256)),none,[]⟩,⟨(some 0), .mv (.t 18),none,[]⟩]))))

abbrev s_ref02_Number_J0 (t3 : AV) (h : Heap) : St := ⟨[u_,u_,u_,t3, u_,u_,u_,u_,u_,u_,u_,u_,u_,u_,u_,u_,u_,u_,u_,u_,u_,u_,u_,u_,u_,u_], h⟩
/-- heartwood/heartwoodref02.Number -/
def i_ref02_Number : Ev.Fn := ⟨1, 26, 2, (.seq (.reg [] [⟨(some 2), .mv (.k (.slice none 0 0)),none,[]⟩]) (.seq (.seq (.reg [] [⟨(some 4), .mv (.t 0),none,[]⟩,⟨(some 5), .bin .plain .lss (.t 4) (.k (.int .u64 248)),none,[]⟩]) (.cond (.t 5) (.seq (.reg [] [⟨(some 6), .mv (.t 0),none,[]⟩,⟨(some 7), .conv .u8 (.t 6),none,[]⟩,⟨(some 8), .lit 0 ty_uint8 1 1 [(.int .u8 0)] [(0, (.t 7))],none,[]⟩,⟨(some 2), .mv (.t 8),none,[]⟩]) (.ret i_ref02_Number_r)) .skip)) (.seq (.reg [] [⟨(some 3), .cn (.k (.slice none 0 0)),none,[]⟩]) (.seq (.block 0 i_ref02_Number_j0 (.loop i_ref02_Number_k0 i_ref02_Number_b0)) (.seq (.reg [] [⟨(some 19), .cn (.t 3),none,[]⟩,⟨(some 20), .len false (.t 19),none,[]⟩,⟨(some 21), .bin .plain .add (.k (.int .i64 247)) (.t 20),none,[]⟩,⟨(some 22), .conv .u8 (.t 21),none,[]⟩,⟨(some 23), .lit 0 ty_uint8 1 1 [(.int .u8 0)] [(0, (.t 22))],none,[]⟩,⟨(some 24), .cn (.t 3),none,[]⟩,⟨(some 25), .app 0 ty_uint8 1 1 (.t 23) (.t 24),none,[]⟩,⟨(some 2), .mv (.t 25),none,[]⟩]) (.ret i_ref02_Number_r)))))),
 [.tmp 2], [true], false, []⟩

def i_ref03_Node_r : List Bool := [o_,o_,o_,o_,o_,o_,i_,o_,o_,o_,o_,o_,o_,o_,o_,o_,o_]
/-- heartwood/heartwoodref03.Node -/
def i_ref03_Node : Ev.Fn := ⟨3, 17, 1, (.seq (.reg [] [⟨(some 6), .cn (.k (.slice none 0 0)),none,[]⟩]) (.seq (.reg [] [⟨(some 8), .lit 0 ty_uint8 1 1 [(.int .u8 0)] [(0, (.k (.int .u8 2)))],none,[]⟩,⟨(some 9), .cn (.t 0),none,[]⟩,⟨(some 10), .app 0 ty_uint8 1 1 (.t 8) (.t 9),none,[]⟩,⟨(some 7), .mv (.t 10),none,[]⟩]) (.seq (.reg [] [⟨(some 11), .mv (.t 7),none,[]⟩,⟨(some 12), .cn (.t 1),none,[]⟩,⟨(some 13), .app 0 ty_uint8 1 1 (.t 11) (.t 12),none,[]⟩,⟨(some 7), .mv (.t 13),none,[]⟩]) (.seq (.reg [] [⟨(some 14), .mv (.t 7),none,[]⟩,⟨(some 15), .cn (.t 2),none,[]⟩,⟨(some 16), .app 0 ty_uint8 1 1 (.t 14) (.t 15),none,[]⟩,⟨(some 6), .cn (.t 16), none, [16]⟩]) (.ret i_ref03_Node_r))))),
 [.tmp 6], [], false, []⟩

def i_ref04_Full_r : List Bool := [o_,o_,i_,o_,o_,o_,o_,o_,o_,o_,o_,o_,o_,o_,o_,o_,o_,o_,o_,o_,o_,o_,o_]
def i_ref04_Full_j1 : List Bool := [o_,i_,o_,i_,o_,o_,o_,o_,o_,o_,o_,o_,o_,o_,o_,o_,o_,o_,o_,o_,o_,o_,o_]
def i_ref04_Full_k0 : List Bool := [o_,i_,o_,i_,o_,o_,o_,o_,o_,o_,o_,o_,o_,o_,o_,o_,o_,o_,o_,o_,o_,o_,o_]
def i_ref04_Full_j0 : List Bool := [o_,o_,o_,o_,o_,o_,o_,o_,o_,o_,o_,o_,o_,o_,o_,o_,o_,o_,o_,o_,o_,o_,o_]
abbrev s_ref04_Full_R (t2 : AV) (h : Heap) : St := ⟨[u_,u_,t2, u_,u_,u_,u_,u_,u_,u_,u_,u_,u_,u_,u_,u_,u_,u_,u_,u_,u_,u_,u_], h⟩
abbrev s_ref04_Full_K0 (t1 t3 : AV) (h : Heap) : St := ⟨[u_,t1, u_,t3, u_,u_,u_,u_,u_,u_,u_,u_,u_,u_,u_,u_,u_,u_,u_,u_,u_,u_,u_], h⟩
def i_ref04_Full_b0 : IR := (.seq (.seq (.reg [] [⟨(some 8), .mv (.t 3),none,[]⟩,⟨(some 9), .fa 4 (.t 1),none,[]⟩,⟨(some 10), .load false 1 (.t 9),none,[]⟩,⟨(some 11), .len false (.t 10),none,[]⟩,⟨(some 12), .bin .plain .lss (.t 8) (.t 11),none,[]⟩]) (.cond (.t 12) .skip (.exit 0 i_ref04_Full_j0))) (.seq (.block 1 i_ref04_Full_j1 (.seq (.reg [] [⟨(some 15), .fa 4 (.t 1),none,[]⟩,⟨(some 16), .load false 1 (.t 15),none,[]⟩,⟨(some 17), .mv (.t 3),none,[]⟩,⟨(some 18), .ia 5 (.t 16) (.t 17),none,[]⟩,⟨(some 19), .load true 5 (.t 18),none,[]⟩,⟨(some 20), .qcall n_ref04_Full [(.t 19)] [],none,[]⟩,⟨(some 4), .mv (.t 20),none,[]⟩]) (.seq (.reg [] [⟨(some 21), .mv (.t 4),none,[]⟩,⟨(some 22), .un .not (.t 21),none,[]⟩]) (.cond (.t 22) (.seq (.reg [] [⟨(some 2), .mv (.k (.bool false)),none,[]⟩]) (.ret i_ref04_Full_r)) .skip)))) (.reg [] [⟨(some 13), .mv (.t 3),none,[]⟩,⟨(some 14), .bin .plain .add (.t 13) (.k (.int .i64 1)),none,[]⟩,⟨(some 3), .mv (.t 14),none,[]⟩])))

abbrev s_ref04_Full_J0 (h : Heap) : St := ⟨[u_,u_,u_,u_,u_,u_,u_,u_,u_,u_,u_,u_,u_,u_,u_,u_,u_,u_,u_,u_,u_,u_,u_], h⟩
/-- heartwood/heartwoodref04.Full -/
def i_ref04_Full : Ev.Fn := ⟨1, 23, 1, (.seq (.reg [] [⟨(some 1), .box 0 5 (.t 0),none,[]⟩,⟨(some 2), .mv (.k (.bool false)),none,[]⟩]) (.seq (.seq (.reg [] [⟨(some 5), .fa 0 (.t 1),none,[]⟩,⟨(some 6), .load false 1 (.t 5),none,[]⟩,⟨(some 7), .bin .plain .gtr (.t 6) (.k (.int .i64 1)),none,[]⟩]) (.cond (.t 7) (.seq (.reg [] [⟨(some 2), .mv (.k (.bool false)),none,[]⟩]) (.ret i_ref04_Full_r)) .skip)) (.seq (.seq (.reg [] [⟨(some 3), .mv (.k (.int .i64 0)),none,[]⟩]) (.block 0 i_ref04_Full_j0 (.loop i_ref04_Full_k0 i_ref04_Full_b0))) (.seq (.reg [] [⟨(some 2), .mv (.k (.bool true)),none,[]⟩]) (.ret i_ref04_Full_r))))),
 [.tmp 2], [], false, []⟩

def i_ref11_fill_r : List Bool := [o_,o_,o_,o_,o_,o_,i_,i_,o_,o_,o_,o_,o_,o_,o_,o_,o_,o_,o_,o_,o_,o_,o_,o_,o_,o_,o_,o_,o_,o_,o_,o_,o_,o_,o_,o_,o_,o_,o_,o_,o_,o_,o_,o_,o_,o_,o_,o_,o_,o_,o_,o_,o_,o_,o_]
/-- heartwood/heartwoodref11.fill -/
def i_ref11_fill : Ev.Fn := ⟨3, 55, 4, (.seq (.reg [] [⟨(some 3), .box 0 5 (.t 0),none,[]⟩,⟨(some 6), .new 1 [(.int .i64 0), (.slice none 0 0), (.slice none 0 0), (.slice none 0 0), (.slice none 0 0)],none,[]⟩,⟨(some 7), .mv (.k (.int .i64 0)),none,[]⟩]) (.seq (.seq (.reg [] [⟨(some 12), .fa 0 (.t 3),none,[]⟩,⟨(some 13), .load false 1 (.t 12),none,[]⟩,⟨(some 14), .bin .plain .eql (.t 13) (.k (.int .i64 3)),none,[]⟩]) (.cond (.t 14) (.seq (.reg [] [⟨(some 15), .cn (.t 1),none,[]⟩,⟨(some 16), .mv (.t 2),none,[]⟩,⟨(some 17), .ia 5 (.t 15) (.t 16),none,[]⟩,⟨(some 18), .load true 5 (.t 17),none,[]⟩,⟨(some 19), .mv (.t 2),none,[]⟩,⟨(some 20), .bin .plain .add (.t 19) (.k (.int .i64 1)),none,[]⟩,⟨none, .store 5 (.t 6) (.t 18),none,[]⟩,⟨(some 7), .mv (.t 20),none,[]⟩]) (.ret i_ref11_fill_r)) .skip)) (.seq (.seq (.reg [] [⟨(some 21), .fa 0 (.t 3),none,[]⟩,⟨(some 22), .load false 1 (.t 21),none,[]⟩,⟨(some 23), .bin .plain .eql (.t 22) (.k (.int .i64 0)),none,[]⟩]) (.cond (.t 23) (.seq (.reg [] [⟨(some 24), .load true 5 (.t 3),none,[]⟩,⟨(some 25), .mv (.t 2),none,[]⟩,⟨none, .store 5 (.t 6) (.t 24),none,[]⟩,⟨(some 7), .mv (.t 25),none,[]⟩]) (.ret i_ref11_fill_r)) .skip)) (.seq (.reg [] [⟨(some 27), .fa 4 (.t 3),none,[]⟩,⟨(some 28), .load false 1 (.t 27),none,[]⟩,⟨(some 29), .ia 5 (.t 28) (.k (.int .i64 0)),none,[]⟩,⟨(some 30), .load true 5 (.t 29),none,[]⟩,⟨(some 31), .cn (.t 1),none,[]⟩,⟨(some 32), .mv (.t 2),none,[]⟩,⟨(some 33), .qcall n_ref11_fill [(.t 30), (.t 31), (.t 32)] [],none,[]⟩,⟨(some 26), .mv (.t 33),none,[]⟩,⟨(some 34), .ext 0 (.t 26),none,[]⟩,⟨(some 35), .ext 1 (.t 26),none,[]⟩,⟨(some 8), .new 2 [(.int .i64 0), (.slice none 0 0), (.slice none 0 0), (.slice none 0 0), (.slice none 0 0)],none,[]⟩,⟨none, .store 5 (.t 8) (.t 34),none,[]⟩,⟨(some 9), .mv (.t 35),none,[]⟩]) (.seq (.reg [] [⟨(some 37), .fa 4 (.t 3),none,[]⟩,⟨(some 38), .load false 1 (.t 37),none,[]⟩,⟨(some 39), .ia 5 (.t 38) (.k (.int .i64 1)),none,[]⟩,⟨(some 40), .load true 5 (.t 39),none,[]⟩,⟨(some 41), .cn (.t 1),none,[]⟩,⟨(some 42), .mv (.t 9),none,[]⟩,⟨(some 43), .qcall n_ref11_fill [(.t 40), (.t 41), (.t 42)] [],none,[]⟩,⟨(some 36), .mv (.t 43),none,[]⟩,⟨(some 44), .ext 0 (.t 36),none,[]⟩,⟨(some 45), .ext 1 (.t 36),none,[]⟩,⟨(some 10), .new 3 [(.int .i64 0), (.slice none 0 0), (.slice none 0 0), (.slice none 0 0), (.slice none 0 0)],none,[]⟩,⟨none, .store 5 (.t 10) (.t 44),none,[]⟩,⟨(some 11), .mv (.t 45),none,[]⟩]) (.seq (.reg [] [⟨(some 46), .fa 1 (.t 3),none,[]⟩,⟨(some 47), .load false 1 (.t 46),none,[]⟩,⟨(some 48), .fa 2 (.t 3),none,[]⟩,⟨(some 49), .load false 1 (.t 48),none,[]⟩,⟨(some 50), .load true 5 (.t 8),none,[]⟩,⟨(some 51), .load true 5 (.t 10),none,[]⟩,⟨(some 52), .litd 5 2 [(.int .i64 0), (.slice none 0 0), (.slice none 0 0), (.slice none 0 0), (.slice none 0 0)] [(0, (.t 50)), (1, (.t 51))],none,[]⟩,⟨(some 53), .build [(.int .i64 0), (.slice none 0 0), (.slice none 0 0), (.slice none 0 0), (.slice none 0 0)] [(0, 1, (.k (.int .i64 1))), (1, 1, (.t 47)), (2, 1, (.t 49)), (4, 1, (.t 52))],none,[]⟩,⟨(some 54), .mv (.t 11),none,[]⟩,⟨none, .store 5 (.t 6) (.t 53),none,[]⟩,⟨(some 7), .mv (.t 54),none,[]⟩]) (.ret i_ref11_fill_r))))))),
 [.cell 6 true 5, .tmp 7], [], false, []⟩

def i_law00_Is_r : List Bool := [o_,o_,o_,o_,o_,o_,i_,o_,o_,o_,o_,o_,o_,o_,o_,o_,o_,o_,o_,o_,o_,o_,o_,o_,o_,o_,o_,o_,o_,o_,o_,o_,o_,o_,o_,o_,o_,o_,o_,o_,o_,o_,o_,o_,o_,o_,o_]
/-- heartwood/heartwoodlaw00.Is -/
def i_law00_Is : Ev.Fn := ⟨3, 47, 1, (.seq (.reg [] [⟨(some 6), .mv (.k (.bool false)),none,[]⟩]) (.seq (.reg [] [⟨(some 7), .new 0 [(.pointer none)],none,[]⟩]) (.seq (.reg [] [⟨(some 10), .mv (.t 0),none,[]⟩,⟨(some 11), .mki ty_api_Spot_3 (.t 7),none,[]⟩,⟨(some 12), .call n_errors_As [(.t 10), (.t 11)] [],none,[]⟩,⟨(some 8), .mv (.t 12),none,[]⟩]) (.seq (.seq (.reg [] [⟨(some 13), .mv (.t 8),none,[]⟩,⟨(some 14), .un .not (.t 13),none,[]⟩,⟨(some 15), .mv (.t 14),none,[]⟩,⟨(some 16), .load false 1 (.t 7), (some (15, false)), []⟩,⟨(some 17), .bin .ptr .eql (.t 16) (.k (.pointer none)), (some (15, false)), []⟩,⟨(some 18), .pick (.t 15) (.k (.bool true)) (.t 17),none,[]⟩,⟨(some 19), .mv (.t 18),none,[]⟩,⟨(some 20), .mv (.t 0), (some (19, false)), []⟩,⟨(some 21), .load false 1 (.t 7), (some (19, false)), []⟩,⟨(some 22), .mki ty_api_Spot (.t 21), (some (19, false)), []⟩,⟨(some 23), .eqp true ty_api_Spot (.t 20) (.t 22), (some (19, false)), []⟩,⟨(some 24), .pick (.t 19) (.k (.bool true)) (.t 23),none,[]⟩]) (.cond (.t 24) (.seq (.reg [] [⟨(some 6), .mv (.k (.bool false)),none,[]⟩]) (.ret i_law00_Is_r)) .skip)) (.seq (.reg [] [⟨(some 25), .mv (.t 0),none,[]⟩,⟨(some 26), .mv (.t 2),none,[]⟩,⟨(some 27), .mki ty_api_Code (.t 26),none,[]⟩,⟨(some 28), .call n_errors_Is [(.t 25), (.t 27)] [],none,[]⟩,⟨(some 9), .mv (.t 28),none,[]⟩]) (.seq (.reg [] [⟨(some 29), .mv (.t 9),none,[]⟩,⟨(some 30), .mv (.t 29),none,[]⟩,⟨(some 31), .load false 1 (.t 7), (some (30, true)), []⟩,⟨(some 32), .nilc (.t 31), (some (30, true)), []⟩,⟨(some 33), .fa 0 (.t 32), (some (30, true)), []⟩,⟨(some 34), .load false 1 (.t 33), (some (30, true)), []⟩,⟨(some 35), .mv (.t 1), (some (30, true)), []⟩,⟨(some 36), .bin .plain .eql (.t 34) (.t 35), (some (30, true)), []⟩,⟨(some 37), .pick (.t 30) (.t 36) (.k (.bool false)),none,[]⟩,⟨(some 38), .mv (.t 37),none,[]⟩,⟨(some 39), .load false 1 (.t 7), (some (38, true)), []⟩,⟨(some 40), .nilc (.t 39), (some (38, true)), []⟩,⟨(some 41), .fa 1 (.t 40), (some (38, true)), []⟩,⟨(some 42), .load false 1 (.t 41), (some (38, true)), []⟩,⟨(some 43), .mv (.t 2), (some (38, true)), []⟩,⟨(some 44), .mki ty_api_Code (.t 43), (some (38, true)), []⟩,⟨(some 45), .bin (.iface ty_api_Code false) .eql (.t 42) (.t 44), (some (38, true)), []⟩,⟨(some 46), .pick (.t 38) (.t 45) (.k (.bool false)),none,[]⟩,⟨(some 6), .mv (.t 46),none,[]⟩]) (.ret i_law00_Is_r))))))),
 [.tmp 6], [], false, []⟩

def i_ref04_Same_r : List Bool := [o_,o_,o_,o_,i_,o_,o_,o_,o_,o_,o_,o_,o_,o_,o_,o_,o_,o_,o_,o_,o_,o_,o_,o_,o_,o_,o_,o_,o_,o_,o_,o_,o_,o_,o_,o_,o_,o_,o_,o_,o_,o_,o_,o_,o_,o_,o_,o_,o_,o_,o_,o_,o_,o_,o_,o_,o_,o_,o_,o_,o_,o_,o_,o_,o_,o_,o_,o_]
def i_ref04_Same_j1 : List Bool := [o_,o_,i_,i_,o_,i_,o_,o_,o_,o_,o_,o_,o_,o_,o_,o_,o_,o_,o_,o_,o_,o_,o_,o_,o_,o_,o_,o_,o_,o_,o_,o_,o_,o_,o_,o_,o_,o_,o_,o_,o_,o_,o_,o_,o_,o_,o_,o_,o_,o_,o_,o_,o_,o_,o_,o_,o_,o_,o_,o_,o_,o_,o_,o_,o_,o_,o_,o_]
def i_ref04_Same_k0 : List Bool := [o_,o_,i_,i_,o_,i_,o_,o_,o_,o_,o_,o_,o_,o_,o_,o_,o_,o_,o_,o_,o_,o_,o_,o_,o_,o_,o_,o_,o_,o_,o_,o_,o_,o_,o_,o_,o_,o_,o_,o_,o_,o_,o_,o_,o_,o_,o_,o_,o_,o_,o_,o_,o_,o_,o_,o_,o_,o_,o_,o_,o_,o_,o_,o_,o_,o_,o_,o_]
def i_ref04_Same_j0 : List Bool := [o_,o_,o_,o_,o_,o_,o_,o_,o_,o_,o_,o_,o_,o_,o_,o_,o_,o_,o_,o_,o_,o_,o_,o_,o_,o_,o_,o_,o_,o_,o_,o_,o_,o_,o_,o_,o_,o_,o_,o_,o_,o_,o_,o_,o_,o_,o_,o_,o_,o_,o_,o_,o_,o_,o_,o_,o_,o_,o_,o_,o_,o_,o_,o_,o_,o_,o_,o_]
abbrev s_ref04_Same_R (t4 : AV) (h : Heap) : St := ⟨[u_,u_,u_,u_,t4, u_,u_,u_,u_,u_,u_,u_,u_,u_,u_,u_,u_,u_,u_,u_,u_,u_,u_,u_,u_,u_,u_,u_,u_,u_,u_,u_,u_,u_,u_,u_,u_,u_,u_,u_,u_,u_,u_,u_,u_,u_,u_,u_,u_,u_,u_,u_,u_,u_,u_,u_,u_,u_,u_,u_,u_,u_,u_,u_,u_,u_,u_,u_], h⟩
abbrev s_ref04_Same_K0 (t2 t3 t5 : AV) (h : Heap) : St := ⟨[u_,u_,t2, t3, u_,t5, u_,u_,u_,u_,u_,u_,u_,u_,u_,u_,u_,u_,u_,u_,u_,u_,u_,u_,u_,u_,u_,u_,u_,u_,u_,u_,u_,u_,u_,u_,u_,u_,u_,u_,u_,u_,u_,u_,u_,u_,u_,u_,u_,u_,u_,u_,u_,u_,u_,u_,u_,u_,u_,u_,u_,u_,u_,u_,u_,u_,u_,u_], h⟩
def i_ref04_Same_b0 : IR := (.seq (.seq (.reg [] [⟨(some 48), .mv (.t 5),none,[]⟩,⟨(some 49), .fa 4 (.t 2),none,[]⟩,⟨(some 50), .load false 1 (.t 49),none,[]⟩,⟨(some 51), .len false (.t 50),none,[]⟩,⟨(some 52), .bin .plain .lss (.t 48) (.t 51),none,[]⟩]) (.cond (.t 52) .skip (.exit 0 i_ref04_Same_j0))) (.seq (.block 1 i_ref04_Same_j1 (.seq (.reg [] [⟨(some 55), .fa 4 (.t 2),none,[]⟩,⟨(some 56), .load false 1 (.t 55),none,[]⟩,⟨(some 57), .mv (.t 5),none,[]⟩,⟨(some 58), .ia 5 (.t 56) (.t 57),none,[]⟩,⟨(some 59), .load true 5 (.t 58),none,[]⟩,⟨(some 60), .fa 4 (.t 3),none,[]⟩,⟨(some 61), .load false 1 (.t 60),none,[]⟩,⟨(some 62), .mv (.t 5),none,[]⟩,⟨(some 63), .ia 5 (.t 61) (.t 62),none,[]⟩,⟨(some 64), .load true 5 (.t 63),none,[]⟩,⟨(some 65), .qcall n_ref04_Same [(.t 59), (.t 64)] [],none,[]⟩,⟨(some 6), .mv (.t 65),none,[]⟩]) (.seq (.reg [] [⟨(some 66), .mv (.t 6),none,[]⟩,⟨(some 67), .un .not (.t 66),none,[]⟩]) (.cond (.t 67) (.seq (.reg [] [⟨(some 4), .mv (.k (.bool false)),none,[]⟩]) (.ret i_ref04_Same_r)) .skip)))) (.reg [] [⟨(some 53), .mv (.t 5),none,[]⟩,⟨(some 54), .bin .plain .add (.t 53) (.k (.int .i64 1)),none,[]⟩,⟨(some 5), .mv (.t 54),none,[]⟩])))

abbrev s_ref04_Same_J0 (h : Heap) : St := ⟨[u_,u_,u_,u_,u_,u_,u_,u_,u_,u_,u_,u_,u_,u_,u_,u_,u_,u_,u_,u_,u_,u_,u_,u_,u_,u_,u_,u_,u_,u_,u_,u_,u_,u_,u_,u_,u_,u_,u_,u_,u_,u_,u_,u_,u_,u_,u_,u_,u_,u_,u_,u_,u_,u_,u_,u_,u_,u_,u_,u_,u_,u_,u_,u_,u_,u_,u_,u_], h⟩
/-- heartwood/heartwoodref04.Same -/
def i_ref04_Same : Ev.Fn := ⟨2, 68, 2, (.seq (.reg [] [⟨(some 2), .box 0 5 (.t 0),none,[]⟩,⟨(some 3), .box 1 5 (.t 1),none,[]⟩,⟨(some 4), .mv (.k (.bool false)),none,[]⟩]) (.seq (.seq (.reg [] [⟨(some 7), .fa 0 (.t 2),none,[]⟩,⟨(some 8), .load false 1 (.t 7),none,[]⟩,⟨(some 9), .fa 0 (.t 3),none,[]⟩,⟨(some 10), .load false 1 (.t 9),none,[]⟩,⟨(some 11), .bin .plain .neq (.t 8) (.t 10),none,[]⟩,⟨(some 12), .mv (.t 11),none,[]⟩,⟨(some 13), .fa 1 (.t 2), (some (12, false)), []⟩,⟨(some 14), .load false 1 (.t 13), (some (12, false)), []⟩,⟨(some 15), .b2s (.t 14), (some (12, false)), []⟩,⟨(some 16), .fa 1 (.t 3), (some (12, false)), []⟩,⟨(some 17), .load false 1 (.t 16), (some (12, false)), []⟩,⟨(some 18), .b2s (.t 17), (some (12, false)), []⟩,⟨(some 19), .bin .plain .neq (.t 15) (.t 18), (some (12, false)), []⟩,⟨(some 20), .pick (.t 12) (.k (.bool true)) (.t 19),none,[]⟩,⟨(some 21), .mv (.t 20),none,[]⟩,⟨(some 22), .fa 2 (.t 2), (some (21, false)), []⟩,⟨(some 23), .load false 1 (.t 22), (some (21, false)), []⟩,⟨(some 24), .b2s (.t 23), (some (21, false)), []⟩,⟨(some 25), .fa 2 (.t 3), (some (21, false)), []⟩,⟨(some 26), .load false 1 (.t 25), (some (21, false)), []⟩,⟨(some 27), .b2s (.t 26), (some (21, false)), []⟩,⟨(some 28), .bin .plain .neq (.t 24) (.t 27), (some (21, false)), []⟩,⟨(some 29), .pick (.t 21) (.k (.bool true)) (.t 28),none,[]⟩,⟨(some 30), .mv (.t 29),none,[]⟩,⟨(some 31), .fa 3 (.t 2), (some (30, false)), []⟩,⟨(some 32), .load false 1 (.t 31), (some (30, false)), []⟩,⟨(some 33), .b2s (.t 32), (some (30, false)), []⟩,⟨(some 34), .fa 3 (.t 3), (some (30, false)), []⟩,⟨(some 35), .load false 1 (.t 34), (some (30, false)), []⟩,⟨(some 36), .b2s (.t 35), (some (30, false)), []⟩,⟨(some 37), .bin .plain .neq (.t 33) (.t 36), (some (30, false)), []⟩,⟨(some 38), .pick (.t 30) (.k (.bool true)) (.t 37),none,[]⟩,⟨(some 39), .mv (.t 38),none,[]⟩,⟨(some 40), .fa 4 (.t 2), (some (39, false)), []⟩,⟨(some 41), .load false 1 (.t 40), (some (39, false)), []⟩,⟨(some 42), .len false (.t 41), (some (39, false)), []⟩,⟨(some 43), .fa 4 (.t 3), (some (39, false)), []⟩,⟨(some 44), .load false 1 (.t 43), (some (39, false)), []⟩,⟨(some 45), .len false (.t 44), (some (39, false)), []⟩,⟨(some 46), .bin .plain .neq (.t 42) (.t 45), (some (39, false)), []⟩,⟨(some 47), .pick (.t 39) (.k (.bool true)) (.t 46),none,[]⟩]) (.cond (.t 47) (.seq (.reg [] [⟨(some 4), .mv (.k (.bool false)),none,[]⟩]) (.ret i_ref04_Same_r)) .skip)) (.seq (.seq (.reg [] [⟨(some 5), .mv (.k (.int .i64 0)),none,[]⟩]) (.block 0 i_ref04_Same_j0 (.loop i_ref04_Same_k0 i_ref04_Same_b0))) (.seq (.reg [] [⟨(some 4), .mv (.k (.bool true)),none,[]⟩]) (.ret i_ref04_Same_r))))),
 [.tmp 4], [], false, []⟩

def i_law00_Code_r : List Bool := [o_,o_,i_,o_,o_,o_,o_,o_,o_,o_,o_,o_,o_,o_,o_]
def i_law00_Code_j1 : List Bool := [i_,o_,o_,i_,o_,o_,o_,o_,o_,o_,o_,o_,o_,o_,o_]
def i_law00_Code_k0 : List Bool := [i_,o_,o_,i_,o_,o_,o_,o_,o_,o_,o_,o_,o_,o_,o_]
def i_law00_Code_j0 : List Bool := [o_,o_,o_,o_,o_,o_,o_,o_,o_,o_,o_,o_,o_,o_,o_]
abbrev s_law00_Code_R (t2 : AV) (h : Heap) : St := ⟨[u_,u_,t2, u_,u_,u_,u_,u_,u_,u_,u_,u_,u_,u_,u_], h⟩
abbrev s_law00_Code_K0 (t0 t3 : AV) (h : Heap) : St := ⟨[t0, u_,u_,t3, u_,u_,u_,u_,u_,u_,u_,u_,u_,u_,u_], h⟩
def i_law00_Code_b0 : IR := (.seq (.seq (.reg [] [⟨(some 6), .mv (.t 3),none,[]⟩,⟨(some 7), .bin .plain .leq (.t 6) (.k (.int .i64 13)),none,[]⟩]) (.cond (.t 7) .skip (.exit 0 i_law00_Code_j0))) (.seq (.block 1 i_law00_Code_j1 (.seq (.reg [] [⟨(some 10), .mv (.t 0),none,[]⟩,⟨(some 11), .mv (.t 3),none,[]⟩,⟨(some 12), .mki ty_api_Code (.t 11),none,[]⟩,⟨(some 13), .bin (.iface ty_api_Code false) .eql (.t 10) (.t 12),none,[]⟩]) (.cond (.t 13) (.seq (.reg [] [⟨(some 14), .mv (.t 3),none,[]⟩,⟨(some 2), .mv (.t 14),none,[]⟩]) (.ret i_law00_Code_r)) .skip))) (.reg [] [⟨(some 8), .mv (.t 3),none,[]⟩,⟨(some 9), .bin .plain .add (.t 8) (.k (.int .i64 1)),none,[]⟩,⟨(some 3), .mv (.t 9),none,[]⟩])))

abbrev s_law00_Code_J0 (h : Heap) : St := ⟨[u_,u_,u_,u_,u_,u_,u_,u_,u_,u_,u_,u_,u_,u_,u_], h⟩
/-- heartwood/heartwoodlaw00.Code -/
def i_law00_Code : Ev.Fn := ⟨1, 15, 0, (.seq (.reg [] [⟨(some 2), .mv (.k (.int .i64 0)),none,[]⟩]) (.seq (.seq (.reg [] [⟨(some 4), .mv (.t 0),none,[]⟩,⟨(some 5), .bin (.iface ty_api_Code true) .eql (.t 4) (.k .nilIface),none,[]⟩]) (.cond (.t 5) (.seq (.reg [] [⟨(some 2), .mv (.k (.int .i64 0)),none,[]⟩]) (.ret i_law00_Code_r)) .skip)) (.seq (.seq (.reg [] [⟨(some 3), .mv (.k (.int .i64 1)),none,[]⟩]) (.block 0 i_law00_Code_j0 (.loop i_law00_Code_k0 i_law00_Code_b0))) (.seq (.reg [] [⟨(some 2), .mv (.k (.int .i64 (-1))),none,[]⟩]) (.ret i_law00_Code_r))))),
 [.tmp 2], [], false, []⟩

def tab (f : Nat) : Option Ev.Fn := match f with
  | 3 => some i_law11_ChunkJoins
  | 4 => some i_law11_up
  | 13 => some i_ref05_Grown
  | 31 => some i_ref05_Put
  | 50 => some i_ref05_Node
  | 51 => some i_ref05_level
  | 64 => some i_ref05_tilt
  | 77 => some i_ref04_Depth
  | 65 => some i_ref05_left
  | 66 => some i_ref05_right
  | 14 => some i_chunk_Cut
  | 17 => some i_chunk_width
  | 32 => some i_tree_Digest
  | 18 => some i_tree_Check
  | 35 => some i_tree_deep
  | 54 => some i_tree_deep_1
  | 37 => some i_slices_ContainsFunc_sl_api_Tree_api_Tree
  | 56 => some i_slices_IndexFunc_sl_api_Tree_api_Tree
  | 36 => some i_tree_formed
  | 55 => some i_tree_formed_1
  | 52 => some i_tree_told
  | 68 => some i_digest_None
  | 67 => some i_digest_Of
  | 78 => some i_digest_width
  | 79 => some i_sha_Sum
  | 85 => some i_sha_Tail
  | 86 => some i_sha_Step
  | 91 => some i_sha_Words
  | 94 => some i_math_bits_RotateLeft32
  | 92 => some i_sha_Round
  | 69 => some i_slices_Clone_sl_byte_byte
  | 70 => some i_digest_Value
  | 71 => some i_digest_Pair
  | 81 => some i_coder_Bytes
  | 88 => some i_coder_Number
  | 80 => some i_slices_Concat_sl_byte_byte
  | 87 => some i_slices_Grow_sl_byte_byte
  | 72 => some i_tree_of
  | 73 => some i_digest_Node
  | 33 => some i_tree_Full
  | 53 => some i_tree_full
  | 74 => some i_tree_full_1
  | 34 => some i_chunk_Cut_1
  | 7 => some i_chunk_Join
  | 19 => some i_chunk_cuts
  | 20 => some i_chunk_dark
  | 21 => some i_chunk_Fits
  | 38 => some i_bytes_Equal
  | 22 => some i_chunk_Join_1
  | 15 => some i_chunk_Count
  | 5 => some i_law11_small
  | 16 => some i_ref04_Light
  | 6 => some i_law11_all
  | 9 => some i_ref01_Made
  | 28 => some i_ref01_root
  | 43 => some i_ref01_below
  | 61 => some i_ref01_times
  | 8 => some i_ref11_Join
  | 23 => some i_ref04_Check
  | 39 => some i_ref04_Deep
  | 40 => some i_ref04_Formed
  | 24 => some i_ref11_Dark
  | 25 => some i_ref11_Cuts
  | 26 => some i_ref11_Fits
  | 41 => some i_ref04_Digest
  | 57 => some i_ref03_Of
  | 75 => some i_ref01_Tables_Sum
  | 82 => some i_ref01_Tail
  | 83 => some i_ref01_Tables_Step
  | 89 => some i_ref01_Words
  | 93 => some i_ref01_turn
  | 90 => some i_ref01_Round
  | 58 => some i_ref03_Value
  | 59 => some i_ref03_Pair
  | 76 => some i_ref02_Bytes
  | 84 => some i_ref02_Number
  | 60 => some i_ref03_Node
  | 42 => some i_ref04_Full
  | 27 => some i_ref11_fill
  | 10 => some i_law00_Is
  | 11 => some i_ref04_Same
  | 12 => some i_law00_Code
  | _ => none
theorem t_law11_ChunkJoins : tab n_law11_ChunkJoins = some i_law11_ChunkJoins := rfl
theorem t_law11_up : tab n_law11_up = some i_law11_up := rfl
theorem t_ref05_Grown : tab n_ref05_Grown = some i_ref05_Grown := rfl
theorem t_ref05_Put : tab n_ref05_Put = some i_ref05_Put := rfl
theorem t_ref05_Node : tab n_ref05_Node = some i_ref05_Node := rfl
theorem t_ref05_level : tab n_ref05_level = some i_ref05_level := rfl
theorem t_ref05_tilt : tab n_ref05_tilt = some i_ref05_tilt := rfl
theorem t_ref04_Depth : tab n_ref04_Depth = some i_ref04_Depth := rfl
theorem t_ref05_left : tab n_ref05_left = some i_ref05_left := rfl
theorem t_ref05_right : tab n_ref05_right = some i_ref05_right := rfl
theorem t_chunk_Cut : tab n_chunk_Cut = some i_chunk_Cut := rfl
theorem t_chunk_width : tab n_chunk_width = some i_chunk_width := rfl
theorem t_tree_Digest : tab n_tree_Digest = some i_tree_Digest := rfl
theorem t_tree_Check : tab n_tree_Check = some i_tree_Check := rfl
theorem t_tree_deep : tab n_tree_deep = some i_tree_deep := rfl
theorem t_tree_deep_1 : tab n_tree_deep_1 = some i_tree_deep_1 := rfl
theorem t_slices_ContainsFunc_sl_api_Tree_api_Tree : tab n_slices_ContainsFunc_sl_api_Tree_api_Tree = some i_slices_ContainsFunc_sl_api_Tree_api_Tree := rfl
theorem t_slices_IndexFunc_sl_api_Tree_api_Tree : tab n_slices_IndexFunc_sl_api_Tree_api_Tree = some i_slices_IndexFunc_sl_api_Tree_api_Tree := rfl
theorem t_tree_formed : tab n_tree_formed = some i_tree_formed := rfl
theorem t_tree_formed_1 : tab n_tree_formed_1 = some i_tree_formed_1 := rfl
theorem t_tree_told : tab n_tree_told = some i_tree_told := rfl
theorem t_digest_None : tab n_digest_None = some i_digest_None := rfl
theorem t_digest_Of : tab n_digest_Of = some i_digest_Of := rfl
theorem t_digest_width : tab n_digest_width = some i_digest_width := rfl
theorem t_sha_Sum : tab n_sha_Sum = some i_sha_Sum := rfl
theorem t_sha_Tail : tab n_sha_Tail = some i_sha_Tail := rfl
theorem t_sha_Step : tab n_sha_Step = some i_sha_Step := rfl
theorem t_sha_Words : tab n_sha_Words = some i_sha_Words := rfl
theorem t_math_bits_RotateLeft32 : tab n_math_bits_RotateLeft32 = some i_math_bits_RotateLeft32 := rfl
theorem t_sha_Round : tab n_sha_Round = some i_sha_Round := rfl
theorem t_slices_Clone_sl_byte_byte : tab n_slices_Clone_sl_byte_byte = some i_slices_Clone_sl_byte_byte := rfl
theorem t_digest_Value : tab n_digest_Value = some i_digest_Value := rfl
theorem t_digest_Pair : tab n_digest_Pair = some i_digest_Pair := rfl
theorem t_coder_Bytes : tab n_coder_Bytes = some i_coder_Bytes := rfl
theorem t_coder_Number : tab n_coder_Number = some i_coder_Number := rfl
theorem t_slices_Concat_sl_byte_byte : tab n_slices_Concat_sl_byte_byte = some i_slices_Concat_sl_byte_byte := rfl
theorem t_slices_Grow_sl_byte_byte : tab n_slices_Grow_sl_byte_byte = some i_slices_Grow_sl_byte_byte := rfl
theorem t_tree_of : tab n_tree_of = some i_tree_of := rfl
theorem t_digest_Node : tab n_digest_Node = some i_digest_Node := rfl
theorem t_tree_Full : tab n_tree_Full = some i_tree_Full := rfl
theorem t_tree_full : tab n_tree_full = some i_tree_full := rfl
theorem t_tree_full_1 : tab n_tree_full_1 = some i_tree_full_1 := rfl
theorem t_chunk_Cut_1 : tab n_chunk_Cut_1 = some i_chunk_Cut_1 := rfl
theorem t_chunk_Join : tab n_chunk_Join = some i_chunk_Join := rfl
theorem t_chunk_cuts : tab n_chunk_cuts = some i_chunk_cuts := rfl
theorem t_chunk_dark : tab n_chunk_dark = some i_chunk_dark := rfl
theorem t_chunk_Fits : tab n_chunk_Fits = some i_chunk_Fits := rfl
theorem t_bytes_Equal : tab n_bytes_Equal = some i_bytes_Equal := rfl
theorem t_chunk_Join_1 : tab n_chunk_Join_1 = some i_chunk_Join_1 := rfl
theorem t_chunk_Count : tab n_chunk_Count = some i_chunk_Count := rfl
theorem t_law11_small : tab n_law11_small = some i_law11_small := rfl
theorem t_ref04_Light : tab n_ref04_Light = some i_ref04_Light := rfl
theorem t_law11_all : tab n_law11_all = some i_law11_all := rfl
theorem t_ref01_Made : tab n_ref01_Made = some i_ref01_Made := rfl
theorem t_ref01_root : tab n_ref01_root = some i_ref01_root := rfl
theorem t_ref01_below : tab n_ref01_below = some i_ref01_below := rfl
theorem t_ref01_times : tab n_ref01_times = some i_ref01_times := rfl
theorem t_ref11_Join : tab n_ref11_Join = some i_ref11_Join := rfl
theorem t_ref04_Check : tab n_ref04_Check = some i_ref04_Check := rfl
theorem t_ref04_Deep : tab n_ref04_Deep = some i_ref04_Deep := rfl
theorem t_ref04_Formed : tab n_ref04_Formed = some i_ref04_Formed := rfl
theorem t_ref11_Dark : tab n_ref11_Dark = some i_ref11_Dark := rfl
theorem t_ref11_Cuts : tab n_ref11_Cuts = some i_ref11_Cuts := rfl
theorem t_ref11_Fits : tab n_ref11_Fits = some i_ref11_Fits := rfl
theorem t_ref04_Digest : tab n_ref04_Digest = some i_ref04_Digest := rfl
theorem t_ref03_Of : tab n_ref03_Of = some i_ref03_Of := rfl
theorem t_ref01_Tables_Sum : tab n_ref01_Tables_Sum = some i_ref01_Tables_Sum := rfl
theorem t_ref01_Tail : tab n_ref01_Tail = some i_ref01_Tail := rfl
theorem t_ref01_Tables_Step : tab n_ref01_Tables_Step = some i_ref01_Tables_Step := rfl
theorem t_ref01_Words : tab n_ref01_Words = some i_ref01_Words := rfl
theorem t_ref01_turn : tab n_ref01_turn = some i_ref01_turn := rfl
theorem t_ref01_Round : tab n_ref01_Round = some i_ref01_Round := rfl
theorem t_ref03_Value : tab n_ref03_Value = some i_ref03_Value := rfl
theorem t_ref03_Pair : tab n_ref03_Pair = some i_ref03_Pair := rfl
theorem t_ref02_Bytes : tab n_ref02_Bytes = some i_ref02_Bytes := rfl
theorem t_ref02_Number : tab n_ref02_Number = some i_ref02_Number := rfl
theorem t_ref03_Node : tab n_ref03_Node = some i_ref03_Node := rfl
theorem t_ref04_Full : tab n_ref04_Full = some i_ref04_Full := rfl
theorem t_ref11_fill : tab n_ref11_fill = some i_ref11_fill := rfl
theorem t_law00_Is : tab n_law00_Is = some i_law00_Is := rfl
theorem t_ref04_Same : tab n_ref04_Same = some i_ref04_Same := rfl
theorem t_law00_Code : tab n_law00_Code = some i_law00_Code := rfl
/-- The constants of the rounds, and the words at first. -/
def tabK : List Int := [1116352408, 1899447441, 3049323471, 3921009573, 961987163, 1508970993, 2453635748, 2870763221, 3624381080, 310598401, 607225278, 1426881987, 1925078388, 2162078206, 2614888103, 3248222580, 3835390401, 4022224774, 264347078, 604807628, 770255983, 1249150122, 1555081692, 1996064986, 2554220882, 2821834349, 2952996808, 3210313671, 3336571891, 3584528711, 113926993, 338241895, 666307205, 773529912, 1294757372, 1396182291, 1695183700, 1986661051, 2177026350, 2456956037, 2730485921, 2820302411, 3259730800, 3345764771, 3516065817, 3600352804, 4094571909, 275423344, 430227734, 506948616, 659060556, 883997877, 958139571, 1322822218, 1537002063, 1747873779, 1955562222, 2024104815, 2227730452, 2361852424, 2428436474, 2756734187, 3204031479, 3329325298]
def tabH : List Int := [1779033703, 3144134277, 1013904242, 2773480762, 1359893119, 2600822924, 528734635, 1541459225]
def gK : List C := tabK.map fun n => .sc (.int .u32 n)
def gH : List C := tabH.map fun n => .sc (.int .u32 n)
/-- What stands in 'errors' for the type of errors. -/
def gE : List C := [.sc (.iface 105 (.agg #[.pointer (some ⟨3, 30, none⟩)]))]
/-- 'errors.As' at a spot, for a spot; 'errors.Is' at a spot, for its code. -/
def xJ : FnEv := fun f args ins =>
  if f = 29 then (match args, ins with
    | [.ifc 58 (.ptr 0 0), .ifc 71 (.ptr 1 0)], [.var [.s (.int .i64 i), .s (.iface 42 (.int .i64 d))], .var [.s (.pointer none)]] => some ([.s (.bool true)], [.var [.s (.int .i64 i), .s (.iface 42 (.int .i64 d))], .var [.ptr 0 0]])
    | _, _ => none)
  else if f = 30 then (match args, ins with
    | [.ifc 58 (.ptr 0 0), .s (.iface 42 (.int .i64 c))], [.var [.s (.int .i64 i), .s (.iface 42 (.int .i64 d))]] => if c = d then some ([.s (.bool true)], [.var [.s (.int .i64 i), .s (.iface 42 (.int .i64 d))]]) else none
    | _, _ => none)
  else none
def G0 : Cf := ⟨fun g => if g = 0 then gE else if g = 1 then gH else if g = 2 then gK else [], false, xJ⟩
theorem G0_1 : G0.G 1 = gH := rfl
theorem G0_2 : G0.G 2 = gK := rfl
theorem gK_len : gK.length = 64 := rfl
theorem gH_len : gH.length = 8 := rfl
theorem gK_at {i : Nat} (h : i < 64) : (gK.drop i).take 1 = [.sc (.int .u32 (tabK.getD i 0))] := by
  have hl : tabK.length = 64 := rfl
  rw [gK, List.drop_eq_getElem_cons (by rw [List.length_map]; omega)]
  simp only [List.take_succ_cons, List.take_zero, List.getElem_map, List.getD, List.getElem?_eq_getElem (show i < tabK.length by omega), Option.getD_some]
theorem gH_take : gH.take 8 = gH := rfl
attribute [go_sem] G0_1 G0_2 gK_len gH_len gK_at gH_take
@[go_sem] theorem lt_law11_ChunkJoins : (n_law11_ChunkJoins < 1000000) = True := eq_true (by decide)
@[go_sem] theorem lt_law11_up : (n_law11_up < 1000000) = True := eq_true (by decide)
@[go_sem] theorem lt_ref05_Grown : (n_ref05_Grown < 1000000) = True := eq_true (by decide)
@[go_sem] theorem lt_ref05_Put : (n_ref05_Put < 1000000) = True := eq_true (by decide)
@[go_sem] theorem lt_ref05_Node : (n_ref05_Node < 1000000) = True := eq_true (by decide)
@[go_sem] theorem lt_ref05_level : (n_ref05_level < 1000000) = True := eq_true (by decide)
@[go_sem] theorem lt_ref05_tilt : (n_ref05_tilt < 1000000) = True := eq_true (by decide)
@[go_sem] theorem lt_ref04_Depth : (n_ref04_Depth < 1000000) = True := eq_true (by decide)
@[go_sem] theorem lt_ref05_left : (n_ref05_left < 1000000) = True := eq_true (by decide)
@[go_sem] theorem lt_ref05_right : (n_ref05_right < 1000000) = True := eq_true (by decide)
@[go_sem] theorem lt_chunk_Cut : (n_chunk_Cut < 1000000) = True := eq_true (by decide)
@[go_sem] theorem lt_chunk_width : (n_chunk_width < 1000000) = True := eq_true (by decide)
@[go_sem] theorem lt_tree_Digest : (n_tree_Digest < 1000000) = True := eq_true (by decide)
@[go_sem] theorem lt_tree_Check : (n_tree_Check < 1000000) = True := eq_true (by decide)
@[go_sem] theorem lt_tree_deep : (n_tree_deep < 1000000) = True := eq_true (by decide)
@[go_sem] theorem lt_tree_deep_1 : (n_tree_deep_1 < 1000000) = True := eq_true (by decide)
@[go_sem] theorem lt_slices_ContainsFunc_sl_api_Tree_api_Tree : (n_slices_ContainsFunc_sl_api_Tree_api_Tree < 1000000) = True := eq_true (by decide)
@[go_sem] theorem lt_slices_IndexFunc_sl_api_Tree_api_Tree : (n_slices_IndexFunc_sl_api_Tree_api_Tree < 1000000) = True := eq_true (by decide)
@[go_sem] theorem lt_tree_formed : (n_tree_formed < 1000000) = True := eq_true (by decide)
@[go_sem] theorem lt_tree_formed_1 : (n_tree_formed_1 < 1000000) = True := eq_true (by decide)
@[go_sem] theorem lt_tree_told : (n_tree_told < 1000000) = True := eq_true (by decide)
@[go_sem] theorem lt_digest_None : (n_digest_None < 1000000) = True := eq_true (by decide)
@[go_sem] theorem lt_digest_Of : (n_digest_Of < 1000000) = True := eq_true (by decide)
@[go_sem] theorem lt_digest_width : (n_digest_width < 1000000) = True := eq_true (by decide)
@[go_sem] theorem lt_sha_Sum : (n_sha_Sum < 1000000) = True := eq_true (by decide)
@[go_sem] theorem lt_sha_Tail : (n_sha_Tail < 1000000) = True := eq_true (by decide)
@[go_sem] theorem lt_sha_Step : (n_sha_Step < 1000000) = True := eq_true (by decide)
@[go_sem] theorem lt_sha_Words : (n_sha_Words < 1000000) = True := eq_true (by decide)
@[go_sem] theorem lt_math_bits_RotateLeft32 : (n_math_bits_RotateLeft32 < 1000000) = True := eq_true (by decide)
@[go_sem] theorem lt_sha_Round : (n_sha_Round < 1000000) = True := eq_true (by decide)
@[go_sem] theorem lt_slices_Clone_sl_byte_byte : (n_slices_Clone_sl_byte_byte < 1000000) = True := eq_true (by decide)
@[go_sem] theorem lt_digest_Value : (n_digest_Value < 1000000) = True := eq_true (by decide)
@[go_sem] theorem lt_digest_Pair : (n_digest_Pair < 1000000) = True := eq_true (by decide)
@[go_sem] theorem lt_coder_Bytes : (n_coder_Bytes < 1000000) = True := eq_true (by decide)
@[go_sem] theorem lt_coder_Number : (n_coder_Number < 1000000) = True := eq_true (by decide)
@[go_sem] theorem lt_slices_Concat_sl_byte_byte : (n_slices_Concat_sl_byte_byte < 1000000) = True := eq_true (by decide)
@[go_sem] theorem lt_slices_Grow_sl_byte_byte : (n_slices_Grow_sl_byte_byte < 1000000) = True := eq_true (by decide)
@[go_sem] theorem lt_tree_of : (n_tree_of < 1000000) = True := eq_true (by decide)
@[go_sem] theorem lt_digest_Node : (n_digest_Node < 1000000) = True := eq_true (by decide)
@[go_sem] theorem lt_tree_Full : (n_tree_Full < 1000000) = True := eq_true (by decide)
@[go_sem] theorem lt_tree_full : (n_tree_full < 1000000) = True := eq_true (by decide)
@[go_sem] theorem lt_tree_full_1 : (n_tree_full_1 < 1000000) = True := eq_true (by decide)
@[go_sem] theorem lt_chunk_Cut_1 : (n_chunk_Cut_1 < 1000000) = True := eq_true (by decide)
@[go_sem] theorem lt_chunk_Join : (n_chunk_Join < 1000000) = True := eq_true (by decide)
@[go_sem] theorem lt_chunk_cuts : (n_chunk_cuts < 1000000) = True := eq_true (by decide)
@[go_sem] theorem lt_chunk_dark : (n_chunk_dark < 1000000) = True := eq_true (by decide)
@[go_sem] theorem lt_chunk_Fits : (n_chunk_Fits < 1000000) = True := eq_true (by decide)
@[go_sem] theorem lt_bytes_Equal : (n_bytes_Equal < 1000000) = True := eq_true (by decide)
@[go_sem] theorem lt_chunk_Join_1 : (n_chunk_Join_1 < 1000000) = True := eq_true (by decide)
@[go_sem] theorem lt_chunk_Count : (n_chunk_Count < 1000000) = True := eq_true (by decide)
@[go_sem] theorem lt_law11_small : (n_law11_small < 1000000) = True := eq_true (by decide)
@[go_sem] theorem lt_ref04_Light : (n_ref04_Light < 1000000) = True := eq_true (by decide)
@[go_sem] theorem lt_law11_all : (n_law11_all < 1000000) = True := eq_true (by decide)
@[go_sem] theorem lt_ref01_Made : (n_ref01_Made < 1000000) = True := eq_true (by decide)
@[go_sem] theorem lt_ref01_root : (n_ref01_root < 1000000) = True := eq_true (by decide)
@[go_sem] theorem lt_ref01_below : (n_ref01_below < 1000000) = True := eq_true (by decide)
@[go_sem] theorem lt_ref01_times : (n_ref01_times < 1000000) = True := eq_true (by decide)
@[go_sem] theorem lt_ref11_Join : (n_ref11_Join < 1000000) = True := eq_true (by decide)
@[go_sem] theorem lt_ref04_Check : (n_ref04_Check < 1000000) = True := eq_true (by decide)
@[go_sem] theorem lt_ref04_Deep : (n_ref04_Deep < 1000000) = True := eq_true (by decide)
@[go_sem] theorem lt_ref04_Formed : (n_ref04_Formed < 1000000) = True := eq_true (by decide)
@[go_sem] theorem lt_ref11_Dark : (n_ref11_Dark < 1000000) = True := eq_true (by decide)
@[go_sem] theorem lt_ref11_Cuts : (n_ref11_Cuts < 1000000) = True := eq_true (by decide)
@[go_sem] theorem lt_ref11_Fits : (n_ref11_Fits < 1000000) = True := eq_true (by decide)
@[go_sem] theorem lt_ref04_Digest : (n_ref04_Digest < 1000000) = True := eq_true (by decide)
@[go_sem] theorem lt_ref03_Of : (n_ref03_Of < 1000000) = True := eq_true (by decide)
@[go_sem] theorem lt_ref01_Tables_Sum : (n_ref01_Tables_Sum < 1000000) = True := eq_true (by decide)
@[go_sem] theorem lt_ref01_Tail : (n_ref01_Tail < 1000000) = True := eq_true (by decide)
@[go_sem] theorem lt_ref01_Tables_Step : (n_ref01_Tables_Step < 1000000) = True := eq_true (by decide)
@[go_sem] theorem lt_ref01_Words : (n_ref01_Words < 1000000) = True := eq_true (by decide)
@[go_sem] theorem lt_ref01_turn : (n_ref01_turn < 1000000) = True := eq_true (by decide)
@[go_sem] theorem lt_ref01_Round : (n_ref01_Round < 1000000) = True := eq_true (by decide)
@[go_sem] theorem lt_ref03_Value : (n_ref03_Value < 1000000) = True := eq_true (by decide)
@[go_sem] theorem lt_ref03_Pair : (n_ref03_Pair < 1000000) = True := eq_true (by decide)
@[go_sem] theorem lt_ref02_Bytes : (n_ref02_Bytes < 1000000) = True := eq_true (by decide)
@[go_sem] theorem lt_ref02_Number : (n_ref02_Number < 1000000) = True := eq_true (by decide)
@[go_sem] theorem lt_ref03_Node : (n_ref03_Node < 1000000) = True := eq_true (by decide)
@[go_sem] theorem lt_ref04_Full : (n_ref04_Full < 1000000) = True := eq_true (by decide)
@[go_sem] theorem lt_ref11_fill : (n_ref11_fill < 1000000) = True := eq_true (by decide)
@[go_sem] theorem lt_law00_Is : (n_law00_Is < 1000000) = True := eq_true (by decide)
@[go_sem] theorem lt_ref04_Same : (n_ref04_Same < 1000000) = True := eq_true (by decide)
@[go_sem] theorem lt_law00_Code : (n_law00_Code < 1000000) = True := eq_true (by decide)
theorem ca_law11_ChunkJoins (l : List AV) : cArgs tab n_law11_ChunkJoins l = canonA [] l := rfl
attribute [go_sem] t_law11_ChunkJoins ca_law11_ChunkJoins
theorem ca_law11_up (l : List AV) : cArgs tab n_law11_up l = canonA [] l := rfl
attribute [go_sem] t_law11_up ca_law11_up
theorem ca_ref05_Grown (l : List AV) : cArgs tab n_ref05_Grown l = canonA [] l := rfl
attribute [go_sem] t_ref05_Grown ca_ref05_Grown
theorem ca_ref05_Put (l : List AV) : cArgs tab n_ref05_Put l = canonA [] l := rfl
attribute [go_sem] t_ref05_Put ca_ref05_Put
theorem ca_ref05_Node (l : List AV) : cArgs tab n_ref05_Node l = canonA [] l := rfl
attribute [go_sem] t_ref05_Node ca_ref05_Node
theorem ca_ref05_level (l : List AV) : cArgs tab n_ref05_level l = canonA [] l := rfl
attribute [go_sem] t_ref05_level ca_ref05_level
theorem ca_ref05_tilt (l : List AV) : cArgs tab n_ref05_tilt l = canonA [] l := rfl
attribute [go_sem] t_ref05_tilt ca_ref05_tilt
theorem ca_ref04_Depth (l : List AV) : cArgs tab n_ref04_Depth l = canonA [] l := rfl
attribute [go_sem] t_ref04_Depth ca_ref04_Depth
theorem ca_ref05_left (l : List AV) : cArgs tab n_ref05_left l = canonA [] l := rfl
attribute [go_sem] t_ref05_left ca_ref05_left
theorem ca_ref05_right (l : List AV) : cArgs tab n_ref05_right l = canonA [] l := rfl
attribute [go_sem] t_ref05_right ca_ref05_right
theorem ca_chunk_Cut (l : List AV) : cArgs tab n_chunk_Cut l = canonA [] l := rfl
attribute [go_sem] t_chunk_Cut ca_chunk_Cut
theorem ca_chunk_width (l : List AV) : cArgs tab n_chunk_width l = canonA [] l := rfl
attribute [go_sem] t_chunk_width ca_chunk_width
theorem ca_tree_Digest (l : List AV) : cArgs tab n_tree_Digest l = canonA [] l := rfl
attribute [go_sem] t_tree_Digest ca_tree_Digest
theorem ca_tree_Check (l : List AV) : cArgs tab n_tree_Check l = canonA [] l := rfl
attribute [go_sem] t_tree_Check ca_tree_Check
theorem ca_tree_deep (l : List AV) : cArgs tab n_tree_deep l = canonA [] l := rfl
attribute [go_sem] t_tree_deep ca_tree_deep
theorem ca_tree_deep_1 (l : List AV) : cArgs tab n_tree_deep_1 l = canonA [] l := rfl
attribute [go_sem] t_tree_deep_1 ca_tree_deep_1
theorem ca_slices_ContainsFunc_sl_api_Tree_api_Tree (l : List AV) : cArgs tab n_slices_ContainsFunc_sl_api_Tree_api_Tree l = canonA [] l := rfl
attribute [go_sem] t_slices_ContainsFunc_sl_api_Tree_api_Tree ca_slices_ContainsFunc_sl_api_Tree_api_Tree
theorem ca_slices_IndexFunc_sl_api_Tree_api_Tree (l : List AV) : cArgs tab n_slices_IndexFunc_sl_api_Tree_api_Tree l = canonA [] l := rfl
attribute [go_sem] t_slices_IndexFunc_sl_api_Tree_api_Tree ca_slices_IndexFunc_sl_api_Tree_api_Tree
theorem ca_tree_formed (l : List AV) : cArgs tab n_tree_formed l = canonA [] l := rfl
attribute [go_sem] t_tree_formed ca_tree_formed
theorem ca_tree_formed_1 (l : List AV) : cArgs tab n_tree_formed_1 l = canonA [] l := rfl
attribute [go_sem] t_tree_formed_1 ca_tree_formed_1
theorem ca_tree_told (l : List AV) : cArgs tab n_tree_told l = canonA [] l := rfl
attribute [go_sem] t_tree_told ca_tree_told
theorem ca_digest_None (l : List AV) : cArgs tab n_digest_None l = canonA [] l := rfl
attribute [go_sem] t_digest_None ca_digest_None
theorem ca_digest_Of (l : List AV) : cArgs tab n_digest_Of l = canonA [] l := rfl
attribute [go_sem] t_digest_Of ca_digest_Of
theorem ca_digest_width (l : List AV) : cArgs tab n_digest_width l = canonA [] l := rfl
attribute [go_sem] t_digest_width ca_digest_width
theorem ca_sha_Sum (l : List AV) : cArgs tab n_sha_Sum l = canonA [] l := rfl
attribute [go_sem] t_sha_Sum ca_sha_Sum
theorem ca_sha_Tail (l : List AV) : cArgs tab n_sha_Tail l = canonA [] l := rfl
attribute [go_sem] t_sha_Tail ca_sha_Tail
theorem ca_sha_Step (l : List AV) : cArgs tab n_sha_Step l = canonA [] l := rfl
attribute [go_sem] t_sha_Step ca_sha_Step
theorem ca_sha_Words (l : List AV) : cArgs tab n_sha_Words l = canonA [] l := rfl
attribute [go_sem] t_sha_Words ca_sha_Words
theorem ca_math_bits_RotateLeft32 (l : List AV) : cArgs tab n_math_bits_RotateLeft32 l = canonA [] l := rfl
attribute [go_sem] t_math_bits_RotateLeft32 ca_math_bits_RotateLeft32
theorem ca_sha_Round (l : List AV) : cArgs tab n_sha_Round l = canonA [] l := rfl
attribute [go_sem] t_sha_Round ca_sha_Round
theorem ca_slices_Clone_sl_byte_byte (l : List AV) : cArgs tab n_slices_Clone_sl_byte_byte l = canonA [] l := rfl
attribute [go_sem] t_slices_Clone_sl_byte_byte ca_slices_Clone_sl_byte_byte
theorem ca_digest_Value (l : List AV) : cArgs tab n_digest_Value l = canonA [] l := rfl
attribute [go_sem] t_digest_Value ca_digest_Value
theorem ca_digest_Pair (l : List AV) : cArgs tab n_digest_Pair l = canonA [] l := rfl
attribute [go_sem] t_digest_Pair ca_digest_Pair
theorem ca_coder_Bytes (l : List AV) : cArgs tab n_coder_Bytes l = canonA [] l := rfl
attribute [go_sem] t_coder_Bytes ca_coder_Bytes
theorem ca_coder_Number (l : List AV) : cArgs tab n_coder_Number l = canonA [] l := rfl
attribute [go_sem] t_coder_Number ca_coder_Number
theorem ca_slices_Concat_sl_byte_byte (l : List AV) : cArgs tab n_slices_Concat_sl_byte_byte l = canonA [] l := rfl
attribute [go_sem] t_slices_Concat_sl_byte_byte ca_slices_Concat_sl_byte_byte
theorem ca_slices_Grow_sl_byte_byte (l : List AV) : cArgs tab n_slices_Grow_sl_byte_byte l = canonA [i_,o_] l := rfl
attribute [go_sem] t_slices_Grow_sl_byte_byte ca_slices_Grow_sl_byte_byte
theorem ca_tree_of (l : List AV) : cArgs tab n_tree_of l = canonA [] l := rfl
attribute [go_sem] t_tree_of ca_tree_of
theorem ca_digest_Node (l : List AV) : cArgs tab n_digest_Node l = canonA [] l := rfl
attribute [go_sem] t_digest_Node ca_digest_Node
theorem ca_tree_Full (l : List AV) : cArgs tab n_tree_Full l = canonA [] l := rfl
attribute [go_sem] t_tree_Full ca_tree_Full
theorem ca_tree_full (l : List AV) : cArgs tab n_tree_full l = canonA [] l := rfl
attribute [go_sem] t_tree_full ca_tree_full
theorem ca_tree_full_1 (l : List AV) : cArgs tab n_tree_full_1 l = canonA [] l := rfl
attribute [go_sem] t_tree_full_1 ca_tree_full_1
theorem ca_chunk_Cut_1 (l : List AV) : cArgs tab n_chunk_Cut_1 l = canonA [] l := rfl
attribute [go_sem] t_chunk_Cut_1 ca_chunk_Cut_1
theorem ca_chunk_Join (l : List AV) : cArgs tab n_chunk_Join l = canonA [] l := rfl
attribute [go_sem] t_chunk_Join ca_chunk_Join
theorem ca_chunk_cuts (l : List AV) : cArgs tab n_chunk_cuts l = canonA [] l := rfl
attribute [go_sem] t_chunk_cuts ca_chunk_cuts
theorem ca_chunk_dark (l : List AV) : cArgs tab n_chunk_dark l = canonA [] l := rfl
attribute [go_sem] t_chunk_dark ca_chunk_dark
theorem ca_chunk_Fits (l : List AV) : cArgs tab n_chunk_Fits l = canonA [] l := rfl
attribute [go_sem] t_chunk_Fits ca_chunk_Fits
theorem ca_bytes_Equal (l : List AV) : cArgs tab n_bytes_Equal l = canonA [] l := rfl
attribute [go_sem] t_bytes_Equal ca_bytes_Equal
theorem ca_chunk_Join_1 (l : List AV) : cArgs tab n_chunk_Join_1 l = canonA [] l := rfl
attribute [go_sem] t_chunk_Join_1 ca_chunk_Join_1
theorem ca_chunk_Count (l : List AV) : cArgs tab n_chunk_Count l = canonA [] l := rfl
attribute [go_sem] t_chunk_Count ca_chunk_Count
theorem ca_law11_small (l : List AV) : cArgs tab n_law11_small l = canonA [] l := rfl
attribute [go_sem] t_law11_small ca_law11_small
theorem ca_ref04_Light (l : List AV) : cArgs tab n_ref04_Light l = canonA [] l := rfl
attribute [go_sem] t_ref04_Light ca_ref04_Light
theorem ca_law11_all (l : List AV) : cArgs tab n_law11_all l = canonA [] l := rfl
attribute [go_sem] t_law11_all ca_law11_all
theorem ca_ref01_Made (l : List AV) : cArgs tab n_ref01_Made l = canonA [] l := rfl
attribute [go_sem] t_ref01_Made ca_ref01_Made
theorem ca_ref01_root (l : List AV) : cArgs tab n_ref01_root l = canonA [] l := rfl
attribute [go_sem] t_ref01_root ca_ref01_root
theorem ca_ref01_below (l : List AV) : cArgs tab n_ref01_below l = canonA [] l := rfl
attribute [go_sem] t_ref01_below ca_ref01_below
theorem ca_ref01_times (l : List AV) : cArgs tab n_ref01_times l = canonA [] l := rfl
attribute [go_sem] t_ref01_times ca_ref01_times
theorem ca_ref11_Join (l : List AV) : cArgs tab n_ref11_Join l = canonA [] l := rfl
attribute [go_sem] t_ref11_Join ca_ref11_Join
theorem ca_ref04_Check (l : List AV) : cArgs tab n_ref04_Check l = canonA [] l := rfl
attribute [go_sem] t_ref04_Check ca_ref04_Check
theorem ca_ref04_Deep (l : List AV) : cArgs tab n_ref04_Deep l = canonA [] l := rfl
attribute [go_sem] t_ref04_Deep ca_ref04_Deep
theorem ca_ref04_Formed (l : List AV) : cArgs tab n_ref04_Formed l = canonA [] l := rfl
attribute [go_sem] t_ref04_Formed ca_ref04_Formed
theorem ca_ref11_Dark (l : List AV) : cArgs tab n_ref11_Dark l = canonA [] l := rfl
attribute [go_sem] t_ref11_Dark ca_ref11_Dark
theorem ca_ref11_Cuts (l : List AV) : cArgs tab n_ref11_Cuts l = canonA [] l := rfl
attribute [go_sem] t_ref11_Cuts ca_ref11_Cuts
theorem ca_ref11_Fits (l : List AV) : cArgs tab n_ref11_Fits l = canonA [] l := rfl
attribute [go_sem] t_ref11_Fits ca_ref11_Fits
theorem ca_ref04_Digest (l : List AV) : cArgs tab n_ref04_Digest l = canonA [] l := rfl
attribute [go_sem] t_ref04_Digest ca_ref04_Digest
theorem ca_ref03_Of (l : List AV) : cArgs tab n_ref03_Of l = canonA [] l := rfl
attribute [go_sem] t_ref03_Of ca_ref03_Of
theorem ca_ref01_Tables_Sum (l : List AV) : cArgs tab n_ref01_Tables_Sum l = canonA [] l := rfl
attribute [go_sem] t_ref01_Tables_Sum ca_ref01_Tables_Sum
theorem ca_ref01_Tail (l : List AV) : cArgs tab n_ref01_Tail l = canonA [] l := rfl
attribute [go_sem] t_ref01_Tail ca_ref01_Tail
theorem ca_ref01_Tables_Step (l : List AV) : cArgs tab n_ref01_Tables_Step l = canonA [] l := rfl
attribute [go_sem] t_ref01_Tables_Step ca_ref01_Tables_Step
theorem ca_ref01_Words (l : List AV) : cArgs tab n_ref01_Words l = canonA [] l := rfl
attribute [go_sem] t_ref01_Words ca_ref01_Words
theorem ca_ref01_turn (l : List AV) : cArgs tab n_ref01_turn l = canonA [] l := rfl
attribute [go_sem] t_ref01_turn ca_ref01_turn
theorem ca_ref01_Round (l : List AV) : cArgs tab n_ref01_Round l = canonA [] l := rfl
attribute [go_sem] t_ref01_Round ca_ref01_Round
theorem ca_ref03_Value (l : List AV) : cArgs tab n_ref03_Value l = canonA [] l := rfl
attribute [go_sem] t_ref03_Value ca_ref03_Value
theorem ca_ref03_Pair (l : List AV) : cArgs tab n_ref03_Pair l = canonA [] l := rfl
attribute [go_sem] t_ref03_Pair ca_ref03_Pair
theorem ca_ref02_Bytes (l : List AV) : cArgs tab n_ref02_Bytes l = canonA [] l := rfl
attribute [go_sem] t_ref02_Bytes ca_ref02_Bytes
theorem ca_ref02_Number (l : List AV) : cArgs tab n_ref02_Number l = canonA [] l := rfl
attribute [go_sem] t_ref02_Number ca_ref02_Number
theorem ca_ref03_Node (l : List AV) : cArgs tab n_ref03_Node l = canonA [] l := rfl
attribute [go_sem] t_ref03_Node ca_ref03_Node
theorem ca_ref04_Full (l : List AV) : cArgs tab n_ref04_Full l = canonA [] l := rfl
attribute [go_sem] t_ref04_Full ca_ref04_Full
theorem ca_ref11_fill (l : List AV) : cArgs tab n_ref11_fill l = canonA [] l := rfl
attribute [go_sem] t_ref11_fill ca_ref11_fill
theorem ca_law00_Is (l : List AV) : cArgs tab n_law00_Is l = canonA [] l := rfl
attribute [go_sem] t_law00_Is ca_law00_Is
theorem ca_ref04_Same (l : List AV) : cArgs tab n_ref04_Same l = canonA [] l := rfl
attribute [go_sem] t_ref04_Same ca_ref04_Same
theorem ca_law00_Code (l : List AV) : cArgs tab n_law00_Code l = canonA [] l := rfl
attribute [go_sem] t_law00_Code ca_law00_Code
@[go_sem] theorem kt_law11_ChunkJoins_r (l : List AV) : keepT i_law11_ChunkJoins_r l = keepT [o_,o_,o_,o_,o_,o_,i_,o_,o_,o_,o_,o_,o_,o_,o_,o_,o_,o_,o_,o_,o_,o_,o_,o_,o_,o_,o_,o_,o_,o_,o_,o_,o_,o_,o_,o_,o_,o_,o_,o_,o_,o_,o_,o_,o_,o_,o_,o_,o_,o_,o_,o_,o_,o_,o_,o_,o_,o_,o_,o_,o_,o_,o_,o_,o_] l := rfl
@[go_sem] theorem kt_law11_up_r (l : List AV) : keepT i_law11_up_r l = keepT [i_,o_,o_,o_,o_,o_,o_,o_,o_,o_,o_,o_,o_,o_,o_,o_,o_,o_,o_,o_,o_,o_,o_,o_,o_,o_,o_,o_,o_,o_,o_,o_,o_,o_,o_,o_,o_,o_,o_,o_,o_,o_,o_,o_,o_] l := rfl
@[go_sem] theorem kt_ref05_Grown_r (l : List AV) : keepT i_ref05_Grown_r l = keepT [o_,o_,i_,o_,o_,o_,o_,o_,o_,o_,o_,o_,o_,o_,o_,o_,o_,o_,o_,o_,o_,o_,o_,o_,o_,o_,o_,o_,o_,o_,o_,o_,o_,o_,o_,o_,o_,o_,o_,o_,o_,o_,o_,o_,o_] l := rfl
@[go_sem] theorem kt_ref05_Grown_j1 (l : List AV) : keepT i_ref05_Grown_j1 l = keepT [i_,o_,i_,i_,i_,o_,o_,o_,o_,o_,o_,o_,o_,o_,o_,o_,o_,o_,o_,o_,o_,o_,o_,o_,o_,o_,o_,o_,o_,o_,o_,o_,o_,o_,o_,o_,o_,o_,o_,o_,o_,o_,o_,o_,o_] l := rfl
@[go_sem] theorem kt_ref05_Grown_k0 (l : List AV) : keepT i_ref05_Grown_k0 l = keepT [i_,o_,i_,i_,i_,o_,o_,o_,o_,o_,o_,o_,o_,o_,o_,o_,o_,o_,o_,o_,o_,o_,o_,o_,o_,o_,o_,o_,o_,o_,o_,o_,o_,o_,o_,o_,o_,o_,o_,o_,o_,o_,o_,o_,o_] l := rfl
@[go_sem] theorem kt_ref05_Grown_j0 (l : List AV) : keepT i_ref05_Grown_j0 l = keepT [o_,o_,i_,i_,o_,o_,o_,o_,o_,o_,o_,o_,o_,o_,o_,o_,o_,o_,o_,o_,o_,o_,o_,o_,o_,o_,o_,o_,o_,o_,o_,o_,o_,o_,o_,o_,o_,o_,o_,o_,o_,o_,o_,o_,o_] l := rfl
@[go_sem] theorem kt_ref05_Put_r (l : List AV) : keepT i_ref05_Put_r l = keepT [o_,o_,o_,o_,o_,o_,i_,o_,o_,o_,o_,o_,o_,o_,o_,o_,o_,o_,o_,o_,o_,o_,o_,o_,o_,o_,o_,o_,o_,o_,o_,o_,o_,o_,o_,o_,o_,o_,o_,o_,o_,o_,o_,o_,o_,o_,o_,o_,o_,o_,o_,o_,o_,o_,o_,o_,o_,o_,o_,o_,o_,o_,o_,o_,o_,o_,o_,o_,o_,o_,o_,o_,o_] l := rfl
@[go_sem] theorem kt_ref05_Node_r (l : List AV) : keepT i_ref05_Node_r l = keepT [o_,o_,o_,o_,o_,o_,o_,o_,i_,o_,o_,o_,o_,o_,o_] l := rfl
@[go_sem] theorem kt_ref05_level_r (l : List AV) : keepT i_ref05_level_r l = keepT [o_,o_,i_,o_,o_,o_,o_,o_,o_,o_,o_,o_,o_,o_,o_,o_,o_,o_,o_,o_,o_,o_,o_,o_,o_,o_,o_,o_,o_,o_,o_,o_,o_,o_,o_,o_,o_,o_,o_,o_,o_,o_,o_,o_,o_,o_,o_,o_,o_,o_,o_,o_,o_,o_,o_] l := rfl
@[go_sem] theorem kt_ref05_tilt_r (l : List AV) : keepT i_ref05_tilt_r l = keepT [o_,o_,i_,o_,o_,o_,o_,o_,o_,o_,o_,o_,o_,o_] l := rfl
@[go_sem] theorem kt_ref04_Depth_r (l : List AV) : keepT i_ref04_Depth_r l = keepT [o_,o_,i_,o_,o_,o_,o_,o_,o_,o_,o_,o_,o_,o_,o_,o_,o_,o_,o_,o_,o_,o_,o_,o_,o_,o_] l := rfl
@[go_sem] theorem kt_ref05_left_r (l : List AV) : keepT i_ref05_left_r l = keepT [o_,o_,i_,o_,o_,o_,o_,o_,o_,o_,o_,o_,o_,o_,o_,o_,o_,o_,o_,o_,o_,o_,o_,o_,o_,o_,o_,o_,o_,o_] l := rfl
@[go_sem] theorem kt_ref05_right_r (l : List AV) : keepT i_ref05_right_r l = keepT [o_,o_,i_,o_,o_,o_,o_,o_,o_,o_,o_,o_,o_,o_,o_,o_,o_,o_,o_,o_,o_,o_,o_,o_,o_,o_,o_,o_,o_,o_] l := rfl
@[go_sem] theorem kt_chunk_Cut_r (l : List AV) : keepT i_chunk_Cut_r l = keepT [o_,o_,o_,o_,o_,o_,i_,i_,i_,o_,o_,o_,o_,o_,o_,o_,o_,o_,o_,o_,o_,o_,o_,o_,o_,o_,o_,o_,o_,o_,o_,o_,o_,o_,o_,o_,o_,o_,o_,o_,o_,o_,o_,o_,o_,o_,o_,o_,o_] l := rfl
@[go_sem] theorem kt_chunk_width_r (l : List AV) : keepT i_chunk_width_r l = keepT [o_,o_,i_,o_,o_,o_,o_,o_,o_] l := rfl
@[go_sem] theorem kt_tree_Digest_r (l : List AV) : keepT i_tree_Digest_r l = keepT [o_,o_,o_,o_,i_,i_,o_,o_,o_,o_,o_,o_,o_,o_,o_,o_,o_,o_,o_,o_,o_,o_,o_,o_] l := rfl
@[go_sem] theorem kt_tree_Check_r (l : List AV) : keepT i_tree_Check_r l = keepT [o_,o_,i_,o_,o_,o_,o_,o_,o_,o_,o_,o_] l := rfl
@[go_sem] theorem kt_tree_Check_j0 (l : List AV) : keepT i_tree_Check_j0 l = keepT [o_,o_,o_,o_,o_,o_,o_,o_,o_,o_,o_,o_] l := rfl
@[go_sem] theorem kt_tree_deep_r (l : List AV) : keepT i_tree_deep_r l = keepT [o_,o_,o_,o_,i_,o_,o_,o_,o_,o_,o_,o_,o_,o_,o_,o_,o_,o_,o_,o_,o_,o_,o_,o_,o_,o_,o_,o_,o_] l := rfl
@[go_sem] theorem kt_tree_deep_1_r (l : List AV) : keepT i_tree_deep_1_r l = keepT [o_,o_,o_,i_,o_,o_,o_,o_] l := rfl
@[go_sem] theorem kt_slices_ContainsFunc_sl_api_Tree_api_Tree_r (l : List AV) : keepT i_slices_ContainsFunc_sl_api_Tree_api_Tree_r l = keepT [o_,o_,o_,o_,i_,o_,o_,o_,o_] l := rfl
@[go_sem] theorem kt_slices_IndexFunc_sl_api_Tree_api_Tree_r (l : List AV) : keepT i_slices_IndexFunc_sl_api_Tree_api_Tree_r l = keepT [o_,o_,o_,o_,i_,o_,o_,o_,o_,o_,o_,o_,o_,o_,o_,o_,o_,o_,o_] l := rfl
@[go_sem] theorem kt_slices_IndexFunc_sl_api_Tree_api_Tree_j1 (l : List AV) : keepT i_slices_IndexFunc_sl_api_Tree_api_Tree_j1 l = keepT [i_,i_,o_,o_,o_,o_,o_,i_,i_,o_,o_,o_,o_,o_,o_,o_,o_,o_,o_] l := rfl
@[go_sem] theorem kt_slices_IndexFunc_sl_api_Tree_api_Tree_k0 (l : List AV) : keepT i_slices_IndexFunc_sl_api_Tree_api_Tree_k0 l = keepT [i_,i_,o_,o_,o_,o_,o_,i_,i_,o_,o_,o_,o_,o_,o_,o_,o_,o_,o_] l := rfl
@[go_sem] theorem kt_slices_IndexFunc_sl_api_Tree_api_Tree_j0 (l : List AV) : keepT i_slices_IndexFunc_sl_api_Tree_api_Tree_j0 l = keepT [o_,o_,o_,o_,o_,o_,o_,o_,o_,o_,o_,o_,o_,o_,o_,o_,o_,o_,o_] l := rfl
@[go_sem] theorem kt_tree_formed_r (l : List AV) : keepT i_tree_formed_r l = keepT [o_,o_,i_,o_,o_,o_,o_,o_,o_,o_,o_,o_,o_,o_,o_,o_,o_,o_,o_,o_,o_,o_,o_,o_,o_,o_,o_,o_,o_,o_,o_,o_,o_,o_,o_,o_,o_,o_,o_,o_,o_,o_,o_,o_,o_,o_,o_,o_,o_,o_,o_,o_,o_,o_,o_,o_,o_,o_,o_,o_,o_,o_,o_,o_,o_,o_,o_,o_,o_,o_,o_,o_,o_,o_,o_,o_,o_,o_,o_,o_,o_,o_,o_,o_,o_,o_,o_] l := rfl
@[go_sem] theorem kt_tree_formed_j0 (l : List AV) : keepT i_tree_formed_j0 l = keepT [o_,i_,o_,i_,o_,o_,o_,o_,o_,o_,o_,o_,o_,o_,o_,o_,o_,o_,o_,o_,o_,o_,o_,o_,o_,o_,o_,o_,o_,o_,o_,o_,o_,o_,o_,o_,o_,o_,o_,o_,o_,o_,o_,o_,o_,o_,o_,o_,o_,o_,o_,o_,o_,o_,o_,o_,o_,o_,o_,o_,o_,o_,o_,o_,o_,o_,o_,o_,o_,o_,o_,o_,o_,o_,o_,o_,o_,o_,o_,o_,o_,o_,o_,o_,o_,o_,o_] l := rfl
@[go_sem] theorem kt_tree_formed_1_r (l : List AV) : keepT i_tree_formed_1_r l = keepT [o_,o_,i_,o_,o_,o_] l := rfl
@[go_sem] theorem kt_tree_told_r (l : List AV) : keepT i_tree_told_r l = keepT [o_,o_,o_,o_,i_,i_,o_,o_,o_,o_,o_,o_,o_,o_,o_,o_,o_,o_,o_,o_,o_,o_,o_,o_,o_,o_,o_,o_,o_,o_,o_,o_,o_,o_,o_,o_,o_,o_,o_,o_,o_,o_,o_,o_,o_,o_,o_,o_,o_,o_,o_,o_,o_,o_,o_,o_,o_,o_,o_,o_,o_,o_,o_,o_,o_,o_,o_,o_,o_,o_,o_,o_,o_,o_,o_,o_,o_,o_,o_,o_,o_,o_,o_,o_,o_,o_,o_,o_,o_,o_,o_,o_,o_,o_,o_,o_,o_,o_,o_,o_,o_,o_,o_,o_,o_] l := rfl
@[go_sem] theorem kt_tree_told_j0 (l : List AV) : keepT i_tree_told_j0 l = keepT [i_,o_,o_,i_,o_,o_,o_,o_,o_,o_,o_,o_,o_,o_,o_,o_,o_,o_,o_,o_,o_,o_,o_,o_,o_,o_,o_,o_,o_,o_,o_,o_,o_,o_,o_,o_,o_,o_,o_,o_,o_,o_,o_,o_,o_,o_,o_,o_,o_,o_,o_,o_,o_,o_,o_,o_,o_,o_,o_,o_,o_,o_,o_,o_,o_,o_,o_,o_,o_,o_,o_,o_,o_,o_,o_,o_,o_,o_,o_,o_,o_,o_,o_,o_,o_,o_,o_,o_,o_,o_,o_,o_,o_,o_,o_,o_,o_,o_,o_,o_,o_,o_,o_,o_,o_] l := rfl
@[go_sem] theorem kt_digest_None_r (l : List AV) : keepT i_digest_None_r l = keepT [i_,o_] l := rfl
@[go_sem] theorem kt_digest_Of_r (l : List AV) : keepT i_digest_Of_r l = keepT [o_,o_,o_,o_,i_,i_,o_,o_,o_,o_,o_,o_,o_,o_,o_] l := rfl
@[go_sem] theorem kt_digest_width_r (l : List AV) : keepT i_digest_width_r l = keepT [o_,o_,i_,o_,o_,o_,o_,o_,o_] l := rfl
@[go_sem] theorem kt_sha_Sum_r (l : List AV) : keepT i_sha_Sum_r l = keepT [o_,o_,i_,o_,o_,o_,o_,o_,o_,o_,o_,o_,o_,o_,o_,o_,o_,o_,o_,o_,o_,o_,o_,o_,o_,o_,o_,o_,o_,o_,o_,o_,o_,o_,o_,o_,o_,o_,o_,o_,o_,o_,o_,o_,o_,o_,o_,o_,o_,o_,o_,o_,o_,o_,o_,o_,o_,o_,o_,o_,o_,o_,o_,o_,o_,o_,o_,o_,o_,o_,o_,o_,o_,o_,o_,o_] l := rfl
@[go_sem] theorem kt_sha_Sum_j3 (l : List AV) : keepT i_sha_Sum_j3 l = keepT [o_,o_,o_,o_,o_,o_,o_,i_,o_,i_,o_,o_,o_,o_,o_,o_,o_,o_,o_,o_,o_,o_,o_,o_,o_,o_,o_,o_,o_,o_,o_,o_,o_,o_,o_,o_,o_,i_,i_,o_,o_,o_,o_,o_,o_,o_,o_,o_,o_,o_,o_,o_,o_,o_,o_,o_,o_,o_,o_,o_,o_,o_,o_,o_,o_,o_,o_,o_,o_,o_,o_,o_,o_,o_,o_,o_] l := rfl
@[go_sem] theorem kt_sha_Sum_k1 (l : List AV) : keepT i_sha_Sum_k1 l = keepT [o_,o_,o_,o_,o_,o_,o_,i_,o_,i_,o_,o_,o_,o_,o_,o_,o_,o_,o_,o_,o_,o_,o_,o_,o_,o_,o_,o_,o_,o_,o_,o_,o_,o_,o_,o_,o_,i_,i_,o_,o_,o_,o_,o_,o_,o_,o_,o_,o_,o_,o_,o_,o_,o_,o_,o_,o_,o_,o_,o_,o_,o_,o_,o_,o_,o_,o_,o_,o_,o_,o_,o_,o_,o_,o_,o_] l := rfl
@[go_sem] theorem kt_sha_Sum_j2 (l : List AV) : keepT i_sha_Sum_j2 l = keepT [o_,o_,o_,o_,o_,o_,o_,i_,o_,o_,o_,o_,o_,o_,o_,o_,o_,o_,o_,o_,o_,o_,o_,o_,o_,o_,o_,o_,o_,o_,o_,o_,o_,o_,o_,o_,o_,i_,i_,o_,o_,o_,o_,o_,o_,o_,o_,o_,o_,o_,o_,o_,o_,o_,o_,o_,o_,o_,o_,o_,o_,o_,o_,o_,o_,o_,o_,o_,o_,o_,o_,o_,o_,o_,o_,o_] l := rfl
@[go_sem] theorem kt_sha_Sum_j1 (l : List AV) : keepT i_sha_Sum_j1 l = keepT [o_,o_,o_,o_,o_,o_,o_,i_,o_,o_,o_,o_,o_,o_,o_,o_,o_,o_,o_,o_,o_,o_,o_,o_,o_,o_,o_,o_,o_,o_,o_,o_,o_,o_,o_,o_,o_,i_,i_,o_,o_,o_,o_,o_,o_,o_,o_,o_,o_,o_,o_,o_,o_,o_,o_,o_,o_,o_,o_,o_,o_,o_,o_,o_,o_,o_,o_,o_,o_,o_,o_,o_,o_,o_,o_,o_] l := rfl
@[go_sem] theorem kt_sha_Sum_k0 (l : List AV) : keepT i_sha_Sum_k0 l = keepT [o_,o_,o_,o_,o_,o_,o_,i_,o_,o_,o_,o_,o_,o_,o_,o_,o_,o_,o_,o_,o_,o_,o_,o_,o_,o_,o_,o_,o_,o_,o_,o_,o_,o_,o_,o_,o_,i_,i_,o_,o_,o_,o_,o_,o_,o_,o_,o_,o_,o_,o_,o_,o_,o_,o_,o_,o_,o_,o_,o_,o_,o_,o_,o_,o_,o_,o_,o_,o_,o_,o_,o_,o_,o_,o_,o_] l := rfl
@[go_sem] theorem kt_sha_Sum_j0 (l : List AV) : keepT i_sha_Sum_j0 l = keepT [o_,o_,o_,o_,o_,o_,o_,i_,o_,o_,o_,o_,o_,o_,o_,o_,o_,o_,o_,o_,o_,o_,o_,o_,o_,o_,o_,o_,o_,o_,o_,o_,o_,o_,o_,o_,o_,o_,o_,o_,o_,o_,o_,o_,o_,o_,o_,o_,o_,o_,o_,o_,o_,o_,o_,o_,o_,o_,o_,o_,o_,o_,o_,o_,o_,o_,o_,o_,o_,o_,o_,o_,o_,o_,o_,o_] l := rfl
@[go_sem] theorem kt_sha_Sum_j5 (l : List AV) : keepT i_sha_Sum_j5 l = keepT [o_,o_,o_,o_,o_,o_,o_,o_,o_,o_,i_,o_,o_,o_,o_,o_,o_,o_,o_,o_,o_,o_,o_,o_,o_,o_,o_,o_,o_,o_,o_,o_,o_,o_,o_,o_,o_,o_,o_,o_,o_,o_,o_,o_,o_,o_,o_,o_,o_,o_,o_,o_,o_,o_,o_,o_,i_,i_,o_,o_,o_,o_,o_,o_,o_,o_,o_,o_,o_,o_,o_,o_,o_,o_,o_,o_] l := rfl
@[go_sem] theorem kt_sha_Sum_k2 (l : List AV) : keepT i_sha_Sum_k2 l = keepT [o_,o_,o_,o_,o_,o_,o_,o_,o_,o_,i_,o_,o_,o_,o_,o_,o_,o_,o_,o_,o_,o_,o_,o_,o_,o_,o_,o_,o_,o_,o_,o_,o_,o_,o_,o_,o_,o_,o_,o_,o_,o_,o_,o_,o_,o_,o_,o_,o_,o_,o_,o_,o_,o_,o_,o_,i_,i_,o_,o_,o_,o_,o_,o_,o_,o_,o_,o_,o_,o_,o_,o_,o_,o_,o_,o_] l := rfl
@[go_sem] theorem kt_sha_Sum_j4 (l : List AV) : keepT i_sha_Sum_j4 l = keepT [o_,o_,o_,o_,o_,o_,o_,o_,o_,o_,i_,o_,o_,o_,o_,o_,o_,o_,o_,o_,o_,o_,o_,o_,o_,o_,o_,o_,o_,o_,o_,o_,o_,o_,o_,o_,o_,o_,o_,o_,o_,o_,o_,o_,o_,o_,o_,o_,o_,o_,o_,o_,o_,o_,o_,o_,o_,o_,o_,o_,o_,o_,o_,o_,o_,o_,o_,o_,o_,o_,o_,o_,o_,o_,o_,o_] l := rfl
@[go_sem] theorem kt_sha_Tail_r (l : List AV) : keepT i_sha_Tail_r l = keepT [o_,o_,i_,i_,o_,o_,o_,o_,o_,o_,o_,o_,o_,o_,o_,o_,o_,o_,o_,o_,o_,o_,o_,o_,o_,o_,o_,o_,o_,o_,o_,o_,o_,o_,o_,o_,o_] l := rfl
@[go_sem] theorem kt_sha_Tail_j1 (l : List AV) : keepT i_sha_Tail_j1 l = keepT [i_,o_,o_,o_,i_,o_,o_,o_,o_,o_,o_,o_,o_,o_,o_,o_,o_,o_,o_,o_,o_,o_,o_,o_,o_,o_,o_,o_,o_,o_,o_,o_,o_,o_,o_,o_,o_] l := rfl
@[go_sem] theorem kt_sha_Tail_k0 (l : List AV) : keepT i_sha_Tail_k0 l = keepT [i_,o_,o_,o_,i_,o_,o_,o_,o_,o_,o_,o_,o_,o_,o_,o_,o_,o_,o_,o_,o_,o_,o_,o_,o_,o_,o_,o_,o_,o_,o_,o_,o_,o_,o_,o_,o_] l := rfl
@[go_sem] theorem kt_sha_Tail_j0 (l : List AV) : keepT i_sha_Tail_j0 l = keepT [i_,o_,o_,o_,i_,o_,o_,o_,o_,o_,o_,o_,o_,o_,o_,o_,o_,o_,o_,o_,o_,o_,o_,o_,o_,o_,o_,o_,o_,o_,o_,o_,o_,o_,o_,o_,o_] l := rfl
@[go_sem] theorem kt_sha_Tail_j3 (l : List AV) : keepT i_sha_Tail_j3 l = keepT [i_,o_,o_,o_,i_,i_,o_,o_,o_,o_,o_,o_,o_,o_,o_,o_,o_,o_,o_,o_,o_,o_,o_,o_,o_,o_,o_,o_,o_,o_,o_,o_,o_,o_,o_,o_,o_] l := rfl
@[go_sem] theorem kt_sha_Tail_k1 (l : List AV) : keepT i_sha_Tail_k1 l = keepT [i_,o_,o_,o_,i_,i_,o_,o_,o_,o_,o_,o_,o_,o_,o_,o_,o_,o_,o_,o_,o_,o_,o_,o_,o_,o_,o_,o_,o_,o_,o_,o_,o_,o_,o_,o_,o_] l := rfl
@[go_sem] theorem kt_sha_Tail_j2 (l : List AV) : keepT i_sha_Tail_j2 l = keepT [o_,o_,o_,o_,i_,o_,o_,o_,o_,o_,o_,o_,o_,o_,o_,o_,o_,o_,o_,o_,o_,o_,o_,o_,o_,o_,o_,o_,o_,o_,o_,o_,o_,o_,o_,o_,o_] l := rfl
@[go_sem] theorem kt_sha_Step_r (l : List AV) : keepT i_sha_Step_r l = keepT [o_,o_,o_,o_,i_,i_,o_,o_,o_,o_,o_,o_,o_,o_,o_,o_,o_,o_,o_,o_,o_,o_,o_,o_,o_,o_,o_,o_,o_,o_,o_,o_,o_,o_,o_,o_,o_,o_,o_,o_,o_,o_,o_,o_,o_,o_,o_,o_,o_] l := rfl
@[go_sem] theorem kt_sha_Step_j1 (l : List AV) : keepT i_sha_Step_j1 l = keepT [o_,o_,i_,o_,i_,o_,o_,o_,i_,o_,o_,o_,o_,o_,o_,o_,o_,o_,o_,o_,o_,o_,i_,i_,i_,o_,o_,o_,o_,o_,o_,o_,o_,o_,o_,o_,o_,o_,o_,o_,o_,o_,o_,o_,o_,o_,o_,o_,o_] l := rfl
@[go_sem] theorem kt_sha_Step_k0 (l : List AV) : keepT i_sha_Step_k0 l = keepT [o_,o_,i_,o_,i_,o_,o_,o_,i_,o_,o_,o_,o_,o_,o_,o_,o_,o_,o_,o_,o_,o_,i_,i_,i_,o_,o_,o_,o_,o_,o_,o_,o_,o_,o_,o_,o_,o_,o_,o_,o_,o_,o_,o_,o_,o_,o_,o_,o_] l := rfl
@[go_sem] theorem kt_sha_Step_j0 (l : List AV) : keepT i_sha_Step_j0 l = keepT [o_,o_,i_,o_,i_,o_,o_,o_,i_,o_,o_,o_,o_,o_,o_,o_,o_,o_,o_,o_,o_,o_,o_,o_,o_,o_,o_,o_,o_,o_,o_,o_,o_,o_,o_,o_,o_,o_,o_,o_,o_,o_,o_,o_,o_,o_,o_,o_,o_] l := rfl
@[go_sem] theorem kt_sha_Step_j3 (l : List AV) : keepT i_sha_Step_j3 l = keepT [o_,o_,i_,o_,i_,o_,o_,o_,i_,o_,o_,o_,o_,o_,o_,o_,o_,o_,o_,o_,o_,o_,o_,o_,o_,o_,o_,o_,o_,o_,o_,o_,o_,o_,o_,o_,i_,o_,o_,o_,o_,o_,o_,o_,o_,o_,o_,o_,o_] l := rfl
@[go_sem] theorem kt_sha_Step_k1 (l : List AV) : keepT i_sha_Step_k1 l = keepT [o_,o_,i_,o_,i_,o_,o_,o_,i_,o_,o_,o_,o_,o_,o_,o_,o_,o_,o_,o_,o_,o_,o_,o_,o_,o_,o_,o_,o_,o_,o_,o_,o_,o_,o_,o_,i_,o_,o_,o_,o_,o_,o_,o_,o_,o_,o_,o_,o_] l := rfl
@[go_sem] theorem kt_sha_Step_j2 (l : List AV) : keepT i_sha_Step_j2 l = keepT [o_,o_,i_,o_,i_,o_,o_,o_,o_,o_,o_,o_,o_,o_,o_,o_,o_,o_,o_,o_,o_,o_,o_,o_,o_,o_,o_,o_,o_,o_,o_,o_,o_,o_,o_,o_,o_,o_,o_,o_,o_,o_,o_,o_,o_,o_,o_,o_,o_] l := rfl
@[go_sem] theorem kt_sha_Words_r (l : List AV) : keepT i_sha_Words_r l = keepT [o_,o_,i_,i_,o_,o_,o_,o_,o_,o_,o_,o_,o_,o_,o_,o_,o_,o_,o_,o_,o_,o_,o_,o_,o_,o_,o_,o_,o_,o_,o_,o_,o_,o_,o_,o_,o_,o_,o_,o_,o_,o_,o_,o_,o_,o_,o_,o_,o_,o_,o_,o_,o_,o_,o_,o_,o_,o_,o_,o_,o_,o_,o_,o_,o_,o_,o_,o_,o_,o_,o_,o_,o_,o_,o_,o_,o_,o_,o_,o_,o_,o_,o_,o_,o_,o_,o_] l := rfl
@[go_sem] theorem kt_sha_Words_j1 (l : List AV) : keepT i_sha_Words_j1 l = keepT [o_,o_,o_,o_,i_,o_,o_,o_,o_,o_,o_,o_,o_,o_,o_,o_,o_,i_,i_,i_,o_,o_,o_,o_,o_,o_,o_,o_,o_,o_,o_,o_,o_,o_,o_,o_,o_,o_,o_,o_,o_,o_,o_,o_,o_,o_,o_,o_,o_,o_,o_,o_,o_,o_,o_,o_,o_,o_,o_,o_,o_,o_,o_,o_,o_,o_,o_,o_,o_,o_,o_,o_,o_,o_,o_,o_,o_,o_,o_,o_,o_,o_,o_,o_,o_,o_,o_] l := rfl
@[go_sem] theorem kt_sha_Words_k0 (l : List AV) : keepT i_sha_Words_k0 l = keepT [o_,o_,o_,o_,i_,o_,o_,o_,o_,o_,o_,o_,o_,o_,o_,o_,o_,i_,i_,i_,o_,o_,o_,o_,o_,o_,o_,o_,o_,o_,o_,o_,o_,o_,o_,o_,o_,o_,o_,o_,o_,o_,o_,o_,o_,o_,o_,o_,o_,o_,o_,o_,o_,o_,o_,o_,o_,o_,o_,o_,o_,o_,o_,o_,o_,o_,o_,o_,o_,o_,o_,o_,o_,o_,o_,o_,o_,o_,o_,o_,o_,o_,o_,o_,o_,o_,o_] l := rfl
@[go_sem] theorem kt_sha_Words_j0 (l : List AV) : keepT i_sha_Words_j0 l = keepT [o_,o_,o_,o_,i_,o_,o_,o_,o_,o_,o_,o_,o_,o_,o_,o_,o_,o_,o_,o_,o_,o_,o_,o_,o_,o_,o_,o_,o_,o_,o_,o_,o_,o_,o_,o_,o_,o_,o_,o_,o_,o_,o_,o_,o_,o_,o_,o_,o_,o_,o_,o_,o_,o_,o_,o_,o_,o_,o_,o_,o_,o_,o_,o_,o_,o_,o_,o_,o_,o_,o_,o_,o_,o_,o_,o_,o_,o_,o_,o_,o_,o_,o_,o_,o_,o_,o_] l := rfl
@[go_sem] theorem kt_sha_Words_j3 (l : List AV) : keepT i_sha_Words_j3 l = keepT [o_,o_,o_,o_,i_,o_,o_,i_,o_,o_,o_,o_,o_,o_,o_,o_,o_,o_,o_,o_,o_,o_,o_,o_,o_,o_,o_,o_,o_,o_,o_,o_,o_,o_,o_,o_,o_,o_,o_,o_,o_,o_,o_,o_,o_,o_,o_,o_,o_,o_,o_,o_,o_,o_,o_,o_,o_,o_,o_,o_,o_,o_,o_,o_,o_,o_,o_,o_,o_,o_,o_,o_,o_,o_,o_,o_,o_,o_,o_,o_,o_,o_,o_,o_,o_,o_,o_] l := rfl
@[go_sem] theorem kt_sha_Words_k1 (l : List AV) : keepT i_sha_Words_k1 l = keepT [o_,o_,o_,o_,i_,o_,o_,i_,o_,o_,o_,o_,o_,o_,o_,o_,o_,o_,o_,o_,o_,o_,o_,o_,o_,o_,o_,o_,o_,o_,o_,o_,o_,o_,o_,o_,o_,o_,o_,o_,o_,o_,o_,o_,o_,o_,o_,o_,o_,o_,o_,o_,o_,o_,o_,o_,o_,o_,o_,o_,o_,o_,o_,o_,o_,o_,o_,o_,o_,o_,o_,o_,o_,o_,o_,o_,o_,o_,o_,o_,o_,o_,o_,o_,o_,o_,o_] l := rfl
@[go_sem] theorem kt_sha_Words_j2 (l : List AV) : keepT i_sha_Words_j2 l = keepT [o_,o_,o_,o_,i_,o_,o_,o_,o_,o_,o_,o_,o_,o_,o_,o_,o_,o_,o_,o_,o_,o_,o_,o_,o_,o_,o_,o_,o_,o_,o_,o_,o_,o_,o_,o_,o_,o_,o_,o_,o_,o_,o_,o_,o_,o_,o_,o_,o_,o_,o_,o_,o_,o_,o_,o_,o_,o_,o_,o_,o_,o_,o_,o_,o_,o_,o_,o_,o_,o_,o_,o_,o_,o_,o_,o_,o_,o_,o_,o_,o_,o_,o_,o_,o_,o_,o_] l := rfl
@[go_sem] theorem kt_math_bits_RotateLeft32_r (l : List AV) : keepT i_math_bits_RotateLeft32_r l = keepT [o_,o_,o_,o_,i_,o_,o_,o_,o_,o_,o_,o_,o_,o_,o_,o_,o_] l := rfl
@[go_sem] theorem kt_sha_Round_r (l : List AV) : keepT i_sha_Round_r l = keepT [o_,o_,o_,o_,o_,o_,i_,o_,o_,o_,o_,o_,o_,o_,o_,o_,o_,o_,o_,o_,o_,o_,o_,o_,o_,o_,o_,o_,o_,o_,o_,o_,o_,o_,o_,o_,o_,o_,o_,o_,o_,o_,o_,o_,o_,o_,o_,o_,o_,o_,o_,o_,o_,o_,o_,o_,o_,o_,o_,o_,o_,o_,o_,o_,o_,o_,o_,o_,o_,o_,o_,o_,o_,o_,o_,o_,o_,o_,o_,o_,o_,o_,o_,o_,o_] l := rfl
@[go_sem] theorem kt_slices_Clone_sl_byte_byte_r (l : List AV) : keepT i_slices_Clone_sl_byte_byte_r l = keepT [o_,o_,i_,o_,o_,o_,o_,o_] l := rfl
@[go_sem] theorem kt_digest_Value_r (l : List AV) : keepT i_digest_Value_r l = keepT [o_,o_,i_,o_,o_,o_] l := rfl
@[go_sem] theorem kt_digest_Pair_r (l : List AV) : keepT i_digest_Pair_r l = keepT [o_,o_,o_,o_,o_,o_,i_,i_,o_,o_,o_,o_,o_,o_,o_,o_,o_,o_,o_,o_,o_,o_,o_,o_] l := rfl
@[go_sem] theorem kt_coder_Bytes_r (l : List AV) : keepT i_coder_Bytes_r l = keepT [o_,o_,i_,o_,o_,o_,o_,o_,o_] l := rfl
@[go_sem] theorem kt_coder_Number_r (l : List AV) : keepT i_coder_Number_r l = keepT [o_,o_,i_,o_,o_,o_,o_,o_,o_,o_,o_,o_,o_,o_,o_,o_,o_,o_,o_,o_,o_,o_,o_,o_,o_,o_,o_,o_,o_,o_,o_,o_,o_,o_,o_,o_,o_,o_,o_,o_,o_,o_,o_] l := rfl
@[go_sem] theorem kt_coder_Number_j1 (l : List AV) : keepT i_coder_Number_j1 l = keepT [i_,o_,o_,i_,o_,o_,o_,o_,o_,o_,o_,o_,o_,o_,o_,o_,o_,o_,o_,o_,o_,o_,o_,o_,o_,o_,o_,o_,o_,o_,o_,o_,o_,o_,o_,o_,o_,o_,o_,o_,o_,o_,o_] l := rfl
@[go_sem] theorem kt_coder_Number_k0 (l : List AV) : keepT i_coder_Number_k0 l = keepT [i_,o_,o_,i_,o_,o_,o_,o_,o_,o_,o_,o_,o_,o_,o_,o_,o_,o_,o_,o_,o_,o_,o_,o_,o_,o_,o_,o_,o_,o_,o_,o_,o_,o_,o_,o_,o_,o_,o_,o_,o_,o_,o_] l := rfl
@[go_sem] theorem kt_coder_Number_j0 (l : List AV) : keepT i_coder_Number_j0 l = keepT [i_,o_,o_,i_,o_,o_,o_,o_,o_,o_,o_,o_,o_,o_,o_,o_,o_,o_,o_,o_,o_,o_,o_,o_,o_,o_,o_,o_,o_,o_,o_,o_,o_,o_,o_,o_,o_,o_,o_,o_,o_,o_,o_] l := rfl
@[go_sem] theorem kt_coder_Number_j3 (l : List AV) : keepT i_coder_Number_j3 l = keepT [i_,o_,o_,i_,i_,o_,o_,o_,o_,o_,o_,o_,o_,o_,o_,o_,o_,o_,o_,o_,o_,o_,o_,o_,o_,o_,i_,i_,o_,o_,o_,o_,o_,o_,o_,o_,o_,o_,o_,o_,o_,o_,o_] l := rfl
@[go_sem] theorem kt_coder_Number_k1 (l : List AV) : keepT i_coder_Number_k1 l = keepT [i_,o_,o_,i_,i_,o_,o_,o_,o_,o_,o_,o_,o_,o_,o_,o_,o_,o_,o_,o_,o_,o_,o_,o_,o_,o_,i_,i_,o_,o_,o_,o_,o_,o_,o_,o_,o_,o_,o_,o_,o_,o_,o_] l := rfl
@[go_sem] theorem kt_coder_Number_j2 (l : List AV) : keepT i_coder_Number_j2 l = keepT [o_,o_,o_,o_,i_,o_,o_,o_,o_,o_,o_,o_,o_,o_,o_,o_,o_,o_,o_,o_,o_,o_,o_,o_,o_,o_,o_,o_,o_,o_,o_,o_,o_,o_,o_,o_,o_,o_,o_,o_,o_,o_,o_] l := rfl
@[go_sem] theorem kt_slices_Concat_sl_byte_byte_r (l : List AV) : keepT i_slices_Concat_sl_byte_byte_r l = keepT [o_,o_,i_,o_,o_,o_,o_,o_,o_,o_,o_,o_,o_,o_,o_,o_,o_,o_,o_,o_,o_,o_,o_,o_,o_,o_,o_,o_,o_,o_,o_,o_,o_,o_,o_,o_] l := rfl
@[go_sem] theorem kt_slices_Concat_sl_byte_byte_j1 (l : List AV) : keepT i_slices_Concat_sl_byte_byte_j1 l = keepT [i_,o_,o_,i_,o_,o_,o_,o_,o_,i_,i_,i_,o_,o_,o_,o_,o_,o_,o_,o_,o_,o_,o_,o_,o_,o_,o_,o_,o_,o_,o_,o_,o_,o_,o_,o_] l := rfl
@[go_sem] theorem kt_slices_Concat_sl_byte_byte_k0 (l : List AV) : keepT i_slices_Concat_sl_byte_byte_k0 l = keepT [i_,o_,o_,i_,o_,o_,o_,o_,o_,i_,i_,i_,o_,o_,o_,o_,o_,o_,o_,o_,o_,o_,o_,o_,o_,o_,o_,o_,o_,o_,o_,o_,o_,o_,o_,o_] l := rfl
@[go_sem] theorem kt_slices_Concat_sl_byte_byte_j0 (l : List AV) : keepT i_slices_Concat_sl_byte_byte_j0 l = keepT [i_,o_,o_,i_,o_,o_,o_,o_,o_,o_,o_,o_,o_,o_,o_,o_,o_,o_,o_,o_,o_,o_,o_,o_,o_,o_,o_,o_,o_,o_,o_,o_,o_,o_,o_,o_] l := rfl
@[go_sem] theorem kt_slices_Concat_sl_byte_byte_j3 (l : List AV) : keepT i_slices_Concat_sl_byte_byte_j3 l = keepT [o_,o_,o_,o_,o_,o_,i_,o_,o_,o_,o_,o_,o_,o_,o_,o_,o_,o_,o_,o_,o_,o_,o_,o_,o_,i_,i_,i_,o_,o_,o_,o_,o_,o_,o_,o_] l := rfl
@[go_sem] theorem kt_slices_Concat_sl_byte_byte_k1 (l : List AV) : keepT i_slices_Concat_sl_byte_byte_k1 l = keepT [o_,o_,o_,o_,o_,o_,i_,o_,o_,o_,o_,o_,o_,o_,o_,o_,o_,o_,o_,o_,o_,o_,o_,o_,o_,i_,i_,i_,o_,o_,o_,o_,o_,o_,o_,o_] l := rfl
@[go_sem] theorem kt_slices_Concat_sl_byte_byte_j2 (l : List AV) : keepT i_slices_Concat_sl_byte_byte_j2 l = keepT [o_,o_,o_,o_,o_,o_,i_,o_,o_,o_,o_,o_,o_,o_,o_,o_,o_,o_,o_,o_,o_,o_,o_,o_,o_,o_,o_,o_,o_,o_,o_,o_,o_,o_,o_,o_] l := rfl
@[go_sem] theorem kt_slices_Grow_sl_byte_byte_r (l : List AV) : keepT i_slices_Grow_sl_byte_byte_r l = keepT [o_,o_,o_,o_,i_,o_,o_,o_,o_,o_,o_,o_,o_,o_,o_,o_,o_,o_,o_,o_,o_,o_,o_,o_,o_,o_,o_] l := rfl
@[go_sem] theorem kt_tree_of_r (l : List AV) : keepT i_tree_of_r l = keepT [o_,o_,o_,o_,o_,o_,i_,i_,o_,o_,o_,o_,o_,o_,o_,o_] l := rfl
@[go_sem] theorem kt_digest_Node_r (l : List AV) : keepT i_digest_Node_r l = keepT [o_,o_,o_,o_,o_,o_,o_,o_,i_,i_,o_,o_,o_,o_,o_,o_,o_,o_,o_,o_,o_,o_,o_,o_,o_,o_,o_,o_,o_,o_,o_,o_,o_,o_,o_,o_,o_,o_] l := rfl
@[go_sem] theorem kt_tree_Full_r (l : List AV) : keepT i_tree_Full_r l = keepT [o_,o_,i_,o_,o_,o_,o_,o_,o_,o_] l := rfl
@[go_sem] theorem kt_tree_full_r (l : List AV) : keepT i_tree_full_r l = keepT [o_,o_,i_,o_,o_,o_,o_,o_,o_,o_,o_,o_,o_,o_,o_] l := rfl
@[go_sem] theorem kt_tree_full_1_r (l : List AV) : keepT i_tree_full_1_r l = keepT [o_,o_,i_,o_,o_,o_] l := rfl
@[go_sem] theorem kt_chunk_Cut_1_r (l : List AV) : keepT i_chunk_Cut_1_r l = keepT [o_,o_,o_,o_,o_,o_,o_,i_,o_,o_,o_,o_,o_,o_,o_,o_,o_,o_,o_,o_,o_,o_,o_,o_,o_,o_,o_,o_,o_,o_,o_,o_,o_,o_,o_,o_,o_,o_,o_,o_,o_,o_,o_,o_,o_,o_,o_,o_,o_,o_,o_,o_,o_,o_,o_,o_,o_,o_,o_,o_,o_,o_] l := rfl
@[go_sem] theorem kt_chunk_Join_r (l : List AV) : keepT i_chunk_Join_r l = keepT [o_,o_,o_,o_,o_,o_,i_,i_,o_,o_,o_,o_,o_,o_,o_,o_,o_,o_,o_,o_,o_,o_,o_,o_,o_,o_,o_,o_,o_,o_,o_,o_,o_,o_,o_,o_,o_,o_,o_,o_,o_,o_,o_,o_,o_,o_,o_,o_,o_,o_,o_,o_,o_,o_,o_,o_,o_,o_,o_,o_,o_,o_,o_,o_,o_,o_,o_,o_,o_,o_,o_,o_,o_,o_,o_,o_,o_] l := rfl
@[go_sem] theorem kt_chunk_Join_j2 (l : List AV) : keepT i_chunk_Join_j2 l = keepT [i_,o_,o_,o_,i_,i_,i_,o_,o_,o_,o_,o_,o_,o_,o_,o_,o_,o_,o_,o_,o_,o_,o_,o_,o_,o_,o_,o_,o_,o_,o_,o_,o_,o_,o_,o_,o_,o_,i_,i_,i_,o_,o_,o_,o_,o_,o_,o_,o_,o_,o_,o_,o_,o_,o_,o_,o_,o_,o_,o_,o_,o_,o_,o_,o_,o_,o_,o_,o_,o_,o_,o_,o_,o_,o_,o_,o_] l := rfl
@[go_sem] theorem kt_chunk_Join_j1 (l : List AV) : keepT i_chunk_Join_j1 l = keepT [i_,o_,o_,o_,i_,i_,i_,o_,o_,o_,o_,o_,o_,o_,o_,o_,o_,o_,o_,o_,o_,o_,o_,o_,o_,o_,o_,o_,o_,o_,o_,o_,o_,o_,o_,o_,o_,o_,i_,i_,i_,o_,o_,o_,o_,o_,o_,o_,o_,o_,o_,o_,o_,o_,o_,o_,o_,o_,o_,o_,o_,o_,o_,o_,o_,o_,o_,o_,o_,o_,o_,o_,o_,o_,o_,o_,o_] l := rfl
@[go_sem] theorem kt_chunk_Join_k0 (l : List AV) : keepT i_chunk_Join_k0 l = keepT [i_,o_,o_,o_,i_,i_,i_,o_,o_,o_,o_,o_,o_,o_,o_,o_,o_,o_,o_,o_,o_,o_,o_,o_,o_,o_,o_,o_,o_,o_,o_,o_,o_,o_,o_,o_,o_,o_,i_,i_,i_,o_,o_,o_,o_,o_,o_,o_,o_,o_,o_,o_,o_,o_,o_,o_,o_,o_,o_,o_,o_,o_,o_,o_,o_,o_,o_,o_,o_,o_,o_,o_,o_,o_,o_,o_,o_] l := rfl
@[go_sem] theorem kt_chunk_Join_j0 (l : List AV) : keepT i_chunk_Join_j0 l = keepT [o_,o_,o_,o_,i_,i_,i_,o_,o_,o_,o_,o_,o_,o_,o_,o_,o_,o_,o_,o_,o_,o_,o_,o_,o_,o_,o_,o_,o_,o_,o_,o_,o_,o_,o_,o_,o_,o_,o_,o_,o_,o_,o_,o_,o_,o_,o_,o_,o_,o_,o_,o_,o_,o_,o_,o_,o_,o_,o_,o_,o_,o_,o_,o_,o_,o_,o_,o_,o_,o_,o_,o_,o_,o_,o_,o_,o_] l := rfl
@[go_sem] theorem kt_chunk_cuts_r (l : List AV) : keepT i_chunk_cuts_r l = keepT [o_,o_,i_,o_,o_,o_,o_,o_,o_,o_,o_,o_,o_,o_,o_,o_,o_,o_,o_,o_,o_,o_,o_,o_] l := rfl
@[go_sem] theorem kt_chunk_cuts_j1 (l : List AV) : keepT i_chunk_cuts_j1 l = keepT [o_,o_,o_,i_,o_,o_,o_,o_,o_,o_,o_,o_,i_,i_,i_,o_,o_,o_,o_,o_,o_,o_,o_,o_] l := rfl
@[go_sem] theorem kt_chunk_cuts_k0 (l : List AV) : keepT i_chunk_cuts_k0 l = keepT [o_,o_,o_,i_,o_,o_,o_,o_,o_,o_,o_,o_,i_,i_,i_,o_,o_,o_,o_,o_,o_,o_,o_,o_] l := rfl
@[go_sem] theorem kt_chunk_cuts_j0 (l : List AV) : keepT i_chunk_cuts_j0 l = keepT [o_,o_,o_,i_,o_,o_,o_,o_,o_,o_,o_,o_,o_,o_,o_,o_,o_,o_,o_,o_,o_,o_,o_,o_] l := rfl
@[go_sem] theorem kt_chunk_dark_r (l : List AV) : keepT i_chunk_dark_r l = keepT [o_,o_,i_,o_,o_,o_,o_,o_,o_,o_,o_] l := rfl
@[go_sem] theorem kt_chunk_Fits_r (l : List AV) : keepT i_chunk_Fits_r l = keepT [o_,o_,o_,o_,o_,o_,o_,o_,i_,o_,o_,o_,o_,o_,o_,o_,o_,o_,o_,o_,o_,o_,o_,o_,o_,o_,o_,o_,o_,o_,o_,o_,o_,o_,o_,o_,o_,o_,o_,o_,o_,o_,o_,o_,o_,o_,o_,o_,o_,o_,o_,o_,o_,o_,o_,o_,o_,o_,o_,o_,o_,o_,o_,o_,o_] l := rfl
@[go_sem] theorem kt_chunk_Fits_j0 (l : List AV) : keepT i_chunk_Fits_j0 l = keepT [o_,o_,o_,o_,o_,o_,o_,o_,o_,o_,o_,o_,o_,o_,o_,o_,o_,o_,o_,o_,o_,o_,o_,o_,o_,o_,o_,o_,o_,o_,o_,o_,o_,o_,o_,o_,o_,o_,o_,o_,o_,o_,o_,o_,o_,o_,o_,o_,o_,o_,o_,o_,o_,o_,o_,o_,o_,o_,o_,o_,o_,o_,o_,o_,o_] l := rfl
@[go_sem] theorem kt_bytes_Equal_r (l : List AV) : keepT i_bytes_Equal_r l = keepT [o_,o_,o_,o_,i_,o_,o_,o_,o_,o_] l := rfl
@[go_sem] theorem kt_chunk_Join_1_r (l : List AV) : keepT i_chunk_Join_1_r l = keepT [o_,o_,o_,o_,i_,o_,o_,o_,o_,o_,o_,o_,o_,o_,o_,o_,o_,o_,o_,o_,o_,o_,o_,o_,o_,o_,o_,o_,o_,o_,o_,o_,o_,o_,o_,o_,o_,o_,o_,o_,o_,o_] l := rfl
@[go_sem] theorem kt_chunk_Count_r (l : List AV) : keepT i_chunk_Count_r l = keepT [o_,o_,i_,o_,o_,o_,o_,o_,o_] l := rfl
@[go_sem] theorem kt_law11_small_r (l : List AV) : keepT i_law11_small_r l = keepT [o_,o_,i_,o_,o_,o_] l := rfl
@[go_sem] theorem kt_ref04_Light_r (l : List AV) : keepT i_ref04_Light_r l = keepT [o_,o_,o_,o_,o_,o_,i_,o_,o_,o_,o_,o_,o_,o_,o_,o_,o_,o_,o_,o_,o_,o_,o_,o_,o_,o_,o_,o_,o_,o_,o_,o_,o_,o_,o_,o_,o_,o_,o_,o_,o_,o_,o_,o_,o_,o_,o_,o_,o_,o_,o_,o_,o_,o_,o_,o_,o_,o_,o_,o_] l := rfl
@[go_sem] theorem kt_ref04_Light_j1 (l : List AV) : keepT i_ref04_Light_j1 l = keepT [o_,i_,i_,i_,o_,o_,o_,i_,o_,o_,o_,o_,o_,o_,o_,o_,o_,o_,o_,o_,o_,o_,o_,o_,o_,o_,o_,o_,o_,o_,o_,o_,o_,o_,o_,o_,o_,o_,o_,o_,o_,o_,o_,o_,o_,o_,o_,o_,o_,o_,o_,o_,o_,o_,o_,o_,o_,o_,o_,o_] l := rfl
@[go_sem] theorem kt_ref04_Light_k0 (l : List AV) : keepT i_ref04_Light_k0 l = keepT [o_,i_,i_,i_,o_,o_,o_,i_,o_,o_,o_,o_,o_,o_,o_,o_,o_,o_,o_,o_,o_,o_,o_,o_,o_,o_,o_,o_,o_,o_,o_,o_,o_,o_,o_,o_,o_,o_,o_,o_,o_,o_,o_,o_,o_,o_,o_,o_,o_,o_,o_,o_,o_,o_,o_,o_,o_,o_,o_,o_] l := rfl
@[go_sem] theorem kt_ref04_Light_j0 (l : List AV) : keepT i_ref04_Light_j0 l = keepT [o_,i_,o_,o_,o_,o_,o_,o_,o_,o_,o_,o_,o_,o_,o_,o_,o_,o_,o_,o_,o_,o_,o_,o_,o_,o_,o_,o_,o_,o_,o_,o_,o_,o_,o_,o_,o_,o_,o_,o_,o_,o_,o_,o_,o_,o_,o_,o_,o_,o_,o_,o_,o_,o_,o_,o_,o_,o_,o_,o_] l := rfl
@[go_sem] theorem kt_law11_all_r (l : List AV) : keepT i_law11_all_r l = keepT [o_,o_,i_,o_,o_,o_,o_,o_,o_,o_,o_,o_,o_,o_,o_,o_,o_,o_,o_,o_,o_] l := rfl
@[go_sem] theorem kt_law11_all_j1 (l : List AV) : keepT i_law11_all_j1 l = keepT [i_,o_,o_,i_,o_,o_,o_,o_,o_,o_,o_,o_,o_,o_,o_,o_,o_,o_,o_,o_,o_] l := rfl
@[go_sem] theorem kt_law11_all_k0 (l : List AV) : keepT i_law11_all_k0 l = keepT [i_,o_,o_,i_,o_,o_,o_,o_,o_,o_,o_,o_,o_,o_,o_,o_,o_,o_,o_,o_,o_] l := rfl
@[go_sem] theorem kt_law11_all_j0 (l : List AV) : keepT i_law11_all_j0 l = keepT [o_,o_,o_,o_,o_,o_,o_,o_,o_,o_,o_,o_,o_,o_,o_,o_,o_,o_,o_,o_,o_] l := rfl
@[go_sem] theorem kt_ref01_Made_r (l : List AV) : keepT i_ref01_Made_r l = keepT [i_,o_,o_,o_,o_,o_,o_,o_,o_,o_,o_,o_,o_,o_,o_,o_,o_,o_,o_,o_,o_,o_,o_,o_,o_,o_,o_,o_,o_,o_,o_,o_,o_,o_,o_,o_,o_,o_,o_,o_,o_,o_,o_,o_,o_,o_,o_,o_,o_,o_,o_,o_,o_,o_,o_,o_,o_,o_,o_,o_,o_] l := rfl
@[go_sem] theorem kt_ref01_Made_j3 (l : List AV) : keepT i_ref01_Made_j3 l = keepT [i_,i_,i_,i_,i_,i_,o_,o_,o_,o_,o_,o_,o_,o_,o_,o_,o_,o_,o_,o_,o_,o_,o_,o_,o_,o_,o_,o_,o_,o_,o_,o_,o_,o_,o_,o_,o_,o_,o_,o_,o_,o_,o_,o_,o_,o_,o_,o_,o_,o_,o_,o_,o_,o_,o_,o_,o_,o_,o_,o_,o_] l := rfl
@[go_sem] theorem kt_ref01_Made_k1 (l : List AV) : keepT i_ref01_Made_k1 l = keepT [i_,i_,i_,i_,i_,i_,o_,o_,o_,o_,o_,o_,o_,o_,o_,o_,o_,o_,o_,o_,o_,o_,o_,o_,o_,o_,o_,o_,o_,o_,o_,o_,o_,o_,o_,o_,o_,o_,o_,o_,o_,o_,o_,o_,o_,o_,o_,o_,o_,o_,o_,o_,o_,o_,o_,o_,o_,o_,o_,o_,o_] l := rfl
@[go_sem] theorem kt_ref01_Made_j2 (l : List AV) : keepT i_ref01_Made_j2 l = keepT [i_,i_,i_,i_,i_,o_,o_,o_,o_,o_,o_,o_,o_,o_,o_,o_,o_,o_,o_,o_,o_,o_,o_,o_,o_,o_,o_,o_,o_,o_,o_,o_,o_,o_,o_,o_,o_,o_,o_,o_,o_,o_,o_,o_,o_,o_,o_,o_,o_,o_,o_,o_,o_,o_,o_,o_,o_,o_,o_,o_,o_] l := rfl
@[go_sem] theorem kt_ref01_Made_j1 (l : List AV) : keepT i_ref01_Made_j1 l = keepT [i_,i_,i_,i_,o_,o_,o_,o_,o_,o_,o_,o_,o_,o_,o_,o_,o_,o_,o_,o_,o_,o_,o_,o_,o_,o_,o_,o_,o_,o_,o_,o_,o_,o_,o_,o_,o_,o_,o_,o_,o_,o_,o_,o_,o_,o_,o_,o_,o_,o_,o_,o_,o_,o_,o_,o_,o_,o_,o_,o_,o_] l := rfl
@[go_sem] theorem kt_ref01_Made_k0 (l : List AV) : keepT i_ref01_Made_k0 l = keepT [i_,i_,i_,i_,o_,o_,o_,o_,o_,o_,o_,o_,o_,o_,o_,o_,o_,o_,o_,o_,o_,o_,o_,o_,o_,o_,o_,o_,o_,o_,o_,o_,o_,o_,o_,o_,o_,o_,o_,o_,o_,o_,o_,o_,o_,o_,o_,o_,o_,o_,o_,o_,o_,o_,o_,o_,o_,o_,o_,o_,o_] l := rfl
@[go_sem] theorem kt_ref01_Made_j0 (l : List AV) : keepT i_ref01_Made_j0 l = keepT [i_,i_,i_,o_,o_,o_,o_,o_,o_,o_,o_,o_,o_,o_,o_,o_,o_,o_,o_,o_,o_,o_,o_,o_,o_,o_,o_,o_,o_,o_,o_,o_,o_,o_,o_,o_,o_,o_,o_,o_,o_,o_,o_,o_,o_,o_,o_,o_,o_,o_,o_,o_,o_,o_,o_,o_,o_,o_,o_,o_,o_] l := rfl
@[go_sem] theorem kt_ref01_Made_j5 (l : List AV) : keepT i_ref01_Made_j5 l = keepT [i_,i_,i_,o_,o_,o_,i_,o_,o_,o_,o_,o_,o_,o_,o_,o_,o_,o_,o_,o_,o_,o_,o_,o_,o_,o_,o_,o_,o_,o_,o_,o_,o_,o_,o_,o_,o_,o_,o_,o_,o_,o_,o_,o_,o_,o_,o_,o_,o_,o_,o_,o_,o_,o_,o_,o_,o_,o_,o_,o_,o_] l := rfl
@[go_sem] theorem kt_ref01_Made_k2 (l : List AV) : keepT i_ref01_Made_k2 l = keepT [i_,i_,i_,o_,o_,o_,i_,o_,o_,o_,o_,o_,o_,o_,o_,o_,o_,o_,o_,o_,o_,o_,o_,o_,o_,o_,o_,o_,o_,o_,o_,o_,o_,o_,o_,o_,o_,o_,o_,o_,o_,o_,o_,o_,o_,o_,o_,o_,o_,o_,o_,o_,o_,o_,o_,o_,o_,o_,o_,o_,o_] l := rfl
@[go_sem] theorem kt_ref01_Made_j4 (l : List AV) : keepT i_ref01_Made_j4 l = keepT [i_,i_,i_,o_,o_,o_,o_,o_,o_,o_,o_,o_,o_,o_,o_,o_,o_,o_,o_,o_,o_,o_,o_,o_,o_,o_,o_,o_,o_,o_,o_,o_,o_,o_,o_,o_,o_,o_,o_,o_,o_,o_,o_,o_,o_,o_,o_,o_,o_,o_,o_,o_,o_,o_,o_,o_,o_,o_,o_,o_,o_] l := rfl
@[go_sem] theorem kt_ref01_Made_j7 (l : List AV) : keepT i_ref01_Made_j7 l = keepT [i_,i_,i_,o_,o_,o_,o_,i_,o_,o_,o_,o_,o_,o_,o_,o_,o_,o_,o_,o_,o_,o_,o_,o_,o_,o_,o_,o_,o_,o_,o_,o_,o_,o_,o_,o_,o_,o_,o_,o_,o_,o_,o_,o_,o_,o_,o_,o_,o_,o_,o_,o_,o_,o_,o_,o_,o_,o_,o_,o_,o_] l := rfl
@[go_sem] theorem kt_ref01_Made_k3 (l : List AV) : keepT i_ref01_Made_k3 l = keepT [i_,i_,i_,o_,o_,o_,o_,i_,o_,o_,o_,o_,o_,o_,o_,o_,o_,o_,o_,o_,o_,o_,o_,o_,o_,o_,o_,o_,o_,o_,o_,o_,o_,o_,o_,o_,o_,o_,o_,o_,o_,o_,o_,o_,o_,o_,o_,o_,o_,o_,o_,o_,o_,o_,o_,o_,o_,o_,o_,o_,o_] l := rfl
@[go_sem] theorem kt_ref01_Made_j6 (l : List AV) : keepT i_ref01_Made_j6 l = keepT [i_,i_,o_,o_,o_,o_,o_,o_,o_,o_,o_,o_,o_,o_,o_,o_,o_,o_,o_,o_,o_,o_,o_,o_,o_,o_,o_,o_,o_,o_,o_,o_,o_,o_,o_,o_,o_,o_,o_,o_,o_,o_,o_,o_,o_,o_,o_,o_,o_,o_,o_,o_,o_,o_,o_,o_,o_,o_,o_,o_,o_] l := rfl
@[go_sem] theorem kt_ref01_root_r (l : List AV) : keepT i_ref01_root_r l = keepT [o_,o_,o_,o_,i_,o_,o_,o_,o_,o_,o_,o_,o_,o_,o_,o_,o_,o_,o_,o_,o_,o_,o_] l := rfl
@[go_sem] theorem kt_ref01_root_j1 (l : List AV) : keepT i_ref01_root_j1 l = keepT [i_,i_,o_,o_,o_,i_,i_,o_,o_,o_,o_,o_,o_,o_,o_,o_,o_,o_,o_,o_,o_,o_,o_] l := rfl
@[go_sem] theorem kt_ref01_root_k0 (l : List AV) : keepT i_ref01_root_k0 l = keepT [i_,i_,o_,o_,o_,i_,i_,o_,o_,o_,o_,o_,o_,o_,o_,o_,o_,o_,o_,o_,o_,o_,o_] l := rfl
@[go_sem] theorem kt_ref01_root_j0 (l : List AV) : keepT i_ref01_root_j0 l = keepT [o_,o_,o_,o_,o_,i_,o_,o_,o_,o_,o_,o_,o_,o_,o_,o_,o_,o_,o_,o_,o_,o_,o_] l := rfl
@[go_sem] theorem kt_ref01_below_r (l : List AV) : keepT i_ref01_below_r l = keepT [o_,o_,o_,o_,o_,o_,i_,o_,o_,o_,o_,o_,o_,o_,o_,o_,o_,o_,o_,o_,o_,o_,o_,o_,o_,o_,o_,o_,o_,o_,o_,o_,o_,o_,o_,o_,o_,o_,o_,o_,o_,o_,o_,o_,o_,o_,o_,o_,o_,o_,o_,o_,o_,o_,o_,o_,o_,o_,o_] l := rfl
@[go_sem] theorem kt_ref01_below_j1 (l : List AV) : keepT i_ref01_below_j1 l = keepT [o_,o_,o_,o_,o_,o_,o_,o_,i_,o_,i_,i_,o_,o_,o_,o_,o_,o_,o_,o_,o_,o_,o_,o_,o_,o_,o_,o_,o_,o_,o_,o_,o_,o_,o_,o_,o_,o_,o_,o_,o_,o_,o_,o_,o_,o_,o_,o_,o_,o_,o_,o_,o_,o_,o_,o_,o_,o_,o_] l := rfl
@[go_sem] theorem kt_ref01_below_k0 (l : List AV) : keepT i_ref01_below_k0 l = keepT [o_,o_,o_,o_,o_,o_,o_,o_,i_,o_,i_,i_,o_,o_,o_,o_,o_,o_,o_,o_,o_,o_,o_,o_,o_,o_,o_,o_,o_,o_,o_,o_,o_,o_,o_,o_,o_,o_,o_,o_,o_,o_,o_,o_,o_,o_,o_,o_,o_,o_,o_,o_,o_,o_,o_,o_,o_,o_,o_] l := rfl
@[go_sem] theorem kt_ref01_below_j0 (l : List AV) : keepT i_ref01_below_j0 l = keepT [o_,o_,o_,o_,o_,o_,o_,o_,o_,o_,o_,o_,o_,o_,o_,o_,o_,o_,o_,o_,o_,o_,o_,o_,o_,o_,o_,o_,o_,o_,o_,o_,o_,o_,o_,o_,o_,o_,o_,o_,o_,o_,o_,o_,o_,o_,o_,o_,o_,o_,o_,o_,o_,o_,o_,o_,o_,o_,o_] l := rfl
@[go_sem] theorem kt_ref01_times_r (l : List AV) : keepT i_ref01_times_r l = keepT [o_,o_,o_,o_,i_,o_,o_,o_,o_,o_,o_,o_,o_,o_,o_,o_,o_,o_,o_,o_,o_,o_,o_,o_,o_,o_,o_,o_,o_,o_,o_,o_,o_,o_,o_,o_,o_,o_,o_,o_,o_,o_,o_,o_,o_,o_,o_,o_,o_,o_,o_,o_,o_,o_,o_,o_,o_,o_,o_,o_,o_,o_,o_,o_,o_,o_,o_,o_,o_,o_,o_,o_,o_,o_,o_,o_,o_,o_,o_,o_] l := rfl
@[go_sem] theorem kt_ref01_times_j3 (l : List AV) : keepT i_ref01_times_j3 l = keepT [i_,i_,o_,o_,o_,i_,i_,i_,o_,o_,o_,o_,o_,o_,o_,o_,o_,o_,o_,o_,o_,o_,o_,o_,o_,o_,o_,o_,o_,o_,o_,o_,o_,o_,o_,o_,o_,o_,o_,o_,o_,o_,o_,o_,o_,o_,o_,o_,o_,o_,o_,o_,o_,o_,o_,o_,o_,o_,o_,o_,o_,o_,o_,o_,o_,o_,o_,o_,o_,o_,o_,o_,o_,o_,o_,o_,o_,o_,o_,o_] l := rfl
@[go_sem] theorem kt_ref01_times_k1 (l : List AV) : keepT i_ref01_times_k1 l = keepT [i_,i_,o_,o_,o_,i_,i_,i_,o_,o_,o_,o_,o_,o_,o_,o_,o_,o_,o_,o_,o_,o_,o_,o_,o_,o_,o_,o_,o_,o_,o_,o_,o_,o_,o_,o_,o_,o_,o_,o_,o_,o_,o_,o_,o_,o_,o_,o_,o_,o_,o_,o_,o_,o_,o_,o_,o_,o_,o_,o_,o_,o_,o_,o_,o_,o_,o_,o_,o_,o_,o_,o_,o_,o_,o_,o_,o_,o_,o_,o_] l := rfl
@[go_sem] theorem kt_ref01_times_j2 (l : List AV) : keepT i_ref01_times_j2 l = keepT [i_,i_,o_,o_,o_,i_,i_,o_,o_,o_,o_,o_,o_,o_,o_,o_,o_,o_,o_,o_,o_,o_,o_,o_,o_,o_,o_,o_,o_,o_,o_,o_,o_,o_,o_,o_,o_,o_,o_,o_,o_,o_,o_,o_,o_,o_,o_,o_,o_,o_,o_,o_,o_,o_,o_,o_,o_,o_,o_,o_,o_,o_,o_,o_,o_,o_,o_,o_,o_,o_,o_,o_,o_,o_,o_,o_,o_,o_,o_,o_] l := rfl
@[go_sem] theorem kt_ref01_times_j1 (l : List AV) : keepT i_ref01_times_j1 l = keepT [i_,i_,o_,o_,o_,i_,i_,o_,o_,o_,o_,o_,o_,o_,o_,o_,o_,o_,o_,o_,o_,o_,o_,o_,o_,o_,o_,o_,o_,o_,o_,o_,o_,o_,o_,o_,o_,o_,o_,o_,o_,o_,o_,o_,o_,o_,o_,o_,o_,o_,o_,o_,o_,o_,o_,o_,o_,o_,o_,o_,o_,o_,o_,o_,o_,o_,o_,o_,o_,o_,o_,o_,o_,o_,o_,o_,o_,o_,o_,o_] l := rfl
@[go_sem] theorem kt_ref01_times_k0 (l : List AV) : keepT i_ref01_times_k0 l = keepT [i_,i_,o_,o_,o_,i_,i_,o_,o_,o_,o_,o_,o_,o_,o_,o_,o_,o_,o_,o_,o_,o_,o_,o_,o_,o_,o_,o_,o_,o_,o_,o_,o_,o_,o_,o_,o_,o_,o_,o_,o_,o_,o_,o_,o_,o_,o_,o_,o_,o_,o_,o_,o_,o_,o_,o_,o_,o_,o_,o_,o_,o_,o_,o_,o_,o_,o_,o_,o_,o_,o_,o_,o_,o_,o_,o_,o_,o_,o_,o_] l := rfl
@[go_sem] theorem kt_ref01_times_j0 (l : List AV) : keepT i_ref01_times_j0 l = keepT [o_,o_,o_,o_,o_,i_,o_,o_,o_,o_,o_,o_,o_,o_,o_,o_,o_,o_,o_,o_,o_,o_,o_,o_,o_,o_,o_,o_,o_,o_,o_,o_,o_,o_,o_,o_,o_,o_,o_,o_,o_,o_,o_,o_,o_,o_,o_,o_,o_,o_,o_,o_,o_,o_,o_,o_,o_,o_,o_,o_,o_,o_,o_,o_,o_,o_,o_,o_,o_,o_,o_,o_,o_,o_,o_,o_,o_,o_,o_,o_] l := rfl
@[go_sem] theorem kt_ref01_times_j5 (l : List AV) : keepT i_ref01_times_j5 l = keepT [o_,o_,o_,o_,o_,i_,o_,o_,i_,o_,o_,o_,o_,o_,o_,o_,o_,o_,o_,o_,o_,o_,o_,o_,o_,o_,o_,o_,o_,o_,o_,o_,o_,o_,o_,o_,o_,o_,o_,o_,o_,o_,o_,o_,o_,o_,o_,o_,o_,o_,o_,o_,o_,o_,o_,o_,o_,o_,o_,o_,o_,o_,o_,o_,o_,o_,o_,o_,o_,o_,o_,o_,o_,o_,o_,o_,o_,o_,o_,o_] l := rfl
@[go_sem] theorem kt_ref01_times_k2 (l : List AV) : keepT i_ref01_times_k2 l = keepT [o_,o_,o_,o_,o_,i_,o_,o_,i_,o_,o_,o_,o_,o_,o_,o_,o_,o_,o_,o_,o_,o_,o_,o_,o_,o_,o_,o_,o_,o_,o_,o_,o_,o_,o_,o_,o_,o_,o_,o_,o_,o_,o_,o_,o_,o_,o_,o_,o_,o_,o_,o_,o_,o_,o_,o_,o_,o_,o_,o_,o_,o_,o_,o_,o_,o_,o_,o_,o_,o_,o_,o_,o_,o_,o_,o_,o_,o_,o_,o_] l := rfl
@[go_sem] theorem kt_ref01_times_j4 (l : List AV) : keepT i_ref01_times_j4 l = keepT [o_,o_,o_,o_,o_,i_,o_,o_,o_,o_,o_,o_,o_,o_,o_,o_,o_,o_,o_,o_,o_,o_,o_,o_,o_,o_,o_,o_,o_,o_,o_,o_,o_,o_,o_,o_,o_,o_,o_,o_,o_,o_,o_,o_,o_,o_,o_,o_,o_,o_,o_,o_,o_,o_,o_,o_,o_,o_,o_,o_,o_,o_,o_,o_,o_,o_,o_,o_,o_,o_,o_,o_,o_,o_,o_,o_,o_,o_,o_,o_] l := rfl
@[go_sem] theorem kt_ref11_Join_r (l : List AV) : keepT i_ref11_Join_r l = keepT [o_,o_,o_,o_,o_,o_,o_,o_,i_,i_,i_,o_,o_,o_,o_,o_,o_,o_,o_,o_,o_,o_,o_,o_,o_,o_,o_,o_,o_,o_,o_,o_,o_,o_,o_,o_,o_,o_,o_,o_,o_,o_,o_,o_,o_,o_,o_,o_,o_,o_,o_,o_,o_,o_,o_,o_,o_,o_,o_,o_,o_,o_,o_,o_,o_,o_,o_,o_,o_,o_,o_,o_,o_,o_,o_,o_,o_] l := rfl
@[go_sem] theorem kt_ref11_Join_j1 (l : List AV) : keepT i_ref11_Join_j1 l = keepT [o_,i_,o_,i_,i_,o_,i_,o_,i_,o_,o_,o_,o_,i_,o_,o_,o_,o_,o_,o_,o_,o_,o_,o_,o_,o_,o_,o_,o_,o_,o_,o_,o_,o_,o_,o_,o_,o_,o_,o_,o_,o_,o_,o_,o_,o_,o_,o_,o_,o_,o_,o_,o_,o_,o_,o_,o_,o_,o_,o_,o_,o_,o_,o_,o_,o_,o_,o_,o_,o_,o_,o_,o_,o_,o_,o_,o_] l := rfl
@[go_sem] theorem kt_ref11_Join_k0 (l : List AV) : keepT i_ref11_Join_k0 l = keepT [o_,i_,o_,i_,i_,o_,i_,o_,i_,o_,o_,o_,o_,i_,o_,o_,o_,o_,o_,o_,o_,o_,o_,o_,o_,o_,o_,o_,o_,o_,o_,o_,o_,o_,o_,o_,o_,o_,o_,o_,o_,o_,o_,o_,o_,o_,o_,o_,o_,o_,o_,o_,o_,o_,o_,o_,o_,o_,o_,o_,o_,o_,o_,o_,o_,o_,o_,o_,o_,o_,o_,o_,o_,o_,o_,o_,o_] l := rfl
@[go_sem] theorem kt_ref11_Join_j0 (l : List AV) : keepT i_ref11_Join_j0 l = keepT [o_,o_,o_,i_,o_,o_,i_,o_,i_,o_,o_,o_,o_,o_,o_,o_,o_,o_,o_,o_,o_,o_,o_,o_,o_,o_,o_,o_,o_,o_,o_,o_,o_,o_,o_,o_,o_,o_,o_,o_,o_,o_,o_,o_,o_,o_,o_,o_,o_,o_,o_,o_,o_,o_,o_,o_,o_,o_,o_,o_,o_,o_,o_,o_,o_,o_,o_,o_,o_,o_,o_,o_,o_,o_,o_,o_,o_] l := rfl
@[go_sem] theorem kt_ref04_Check_r (l : List AV) : keepT i_ref04_Check_r l = keepT [o_,o_,i_,o_,o_,o_,o_,o_,o_,o_,o_,o_] l := rfl
@[go_sem] theorem kt_ref04_Deep_r (l : List AV) : keepT i_ref04_Deep_r l = keepT [o_,o_,o_,o_,i_,o_,o_,o_,o_,o_,o_,o_,o_,o_,o_,o_,o_,o_,o_,o_,o_,o_,o_,o_,o_,o_,o_,o_,o_,o_,o_,o_,o_,o_,o_,o_,o_,o_,o_,o_,o_,o_,o_] l := rfl
@[go_sem] theorem kt_ref04_Deep_j1 (l : List AV) : keepT i_ref04_Deep_j1 l = keepT [o_,i_,i_,o_,o_,o_,i_,o_,o_,o_,o_,o_,o_,o_,o_,o_,o_,o_,o_,o_,o_,o_,o_,o_,o_,o_,o_,o_,o_,o_,o_,o_,o_,o_,o_,o_,o_,o_,o_,o_,o_,o_,o_] l := rfl
@[go_sem] theorem kt_ref04_Deep_k0 (l : List AV) : keepT i_ref04_Deep_k0 l = keepT [o_,i_,i_,o_,o_,o_,i_,o_,o_,o_,o_,o_,o_,o_,o_,o_,o_,o_,o_,o_,o_,o_,o_,o_,o_,o_,o_,o_,o_,o_,o_,o_,o_,o_,o_,o_,o_,o_,o_,o_,o_,o_,o_] l := rfl
@[go_sem] theorem kt_ref04_Deep_j0 (l : List AV) : keepT i_ref04_Deep_j0 l = keepT [o_,o_,o_,o_,o_,o_,o_,o_,o_,o_,o_,o_,o_,o_,o_,o_,o_,o_,o_,o_,o_,o_,o_,o_,o_,o_,o_,o_,o_,o_,o_,o_,o_,o_,o_,o_,o_,o_,o_,o_,o_,o_,o_] l := rfl
@[go_sem] theorem kt_ref04_Formed_r (l : List AV) : keepT i_ref04_Formed_r l = keepT [o_,o_,i_,o_,o_,o_,o_,o_,o_,o_,o_,o_,o_,o_,o_,o_,o_,o_,o_,o_,o_,o_,o_,o_,o_,o_,o_,o_,o_,o_,o_,o_,o_,o_,o_,o_,o_,o_,o_,o_,o_,o_,o_,o_,o_,o_,o_,o_,o_,o_,o_,o_,o_,o_,o_,o_,o_,o_,o_,o_,o_,o_,o_,o_,o_,o_,o_,o_,o_,o_,o_,o_,o_,o_,o_,o_,o_,o_,o_,o_,o_,o_,o_,o_,o_,o_,o_,o_,o_,o_,o_,o_,o_,o_] l := rfl
@[go_sem] theorem kt_ref04_Formed_j0 (l : List AV) : keepT i_ref04_Formed_j0 l = keepT [o_,i_,o_,o_,o_,o_,i_,i_,o_,o_,o_,o_,o_,o_,o_,o_,o_,o_,o_,o_,o_,o_,o_,o_,o_,o_,o_,o_,o_,o_,o_,o_,o_,o_,o_,o_,o_,o_,o_,o_,o_,o_,o_,o_,o_,o_,o_,o_,o_,o_,o_,o_,o_,o_,o_,o_,o_,o_,o_,o_,o_,o_,o_,o_,o_,o_,o_,o_,o_,o_,o_,o_,o_,o_,o_,o_,o_,o_,o_,o_,o_,o_,o_,o_,o_,o_,o_,o_,o_,o_,o_,o_,o_,o_] l := rfl
@[go_sem] theorem kt_ref04_Formed_j2 (l : List AV) : keepT i_ref04_Formed_j2 l = keepT [o_,i_,o_,o_,o_,o_,i_,i_,i_,o_,o_,o_,o_,o_,o_,o_,o_,o_,o_,o_,o_,o_,o_,o_,o_,o_,o_,o_,o_,o_,o_,o_,o_,o_,o_,o_,o_,o_,o_,o_,o_,o_,o_,o_,o_,o_,o_,o_,o_,o_,o_,o_,o_,o_,o_,o_,o_,o_,o_,o_,o_,o_,o_,o_,o_,o_,o_,o_,o_,o_,o_,o_,o_,o_,o_,o_,o_,o_,o_,o_,o_,o_,o_,o_,o_,o_,o_,o_,o_,o_,o_,o_,o_,o_] l := rfl
@[go_sem] theorem kt_ref04_Formed_k0 (l : List AV) : keepT i_ref04_Formed_k0 l = keepT [o_,i_,o_,o_,o_,o_,i_,i_,i_,o_,o_,o_,o_,o_,o_,o_,o_,o_,o_,o_,o_,o_,o_,o_,o_,o_,o_,o_,o_,o_,o_,o_,o_,o_,o_,o_,o_,o_,o_,o_,o_,o_,o_,o_,o_,o_,o_,o_,o_,o_,o_,o_,o_,o_,o_,o_,o_,o_,o_,o_,o_,o_,o_,o_,o_,o_,o_,o_,o_,o_,o_,o_,o_,o_,o_,o_,o_,o_,o_,o_,o_,o_,o_,o_,o_,o_,o_,o_,o_,o_,o_,o_,o_,o_] l := rfl
@[go_sem] theorem kt_ref04_Formed_j1 (l : List AV) : keepT i_ref04_Formed_j1 l = keepT [o_,o_,o_,o_,o_,o_,o_,i_,o_,o_,o_,o_,o_,o_,o_,o_,o_,o_,o_,o_,o_,o_,o_,o_,o_,o_,o_,o_,o_,o_,o_,o_,o_,o_,o_,o_,o_,o_,o_,o_,o_,o_,o_,o_,o_,o_,o_,o_,o_,o_,o_,o_,o_,o_,o_,o_,o_,o_,o_,o_,o_,o_,o_,o_,o_,o_,o_,o_,o_,o_,o_,o_,o_,o_,o_,o_,o_,o_,o_,o_,o_,o_,o_,o_,o_,o_,o_,o_,o_,o_,o_,o_,o_,o_] l := rfl
@[go_sem] theorem kt_ref11_Dark_r (l : List AV) : keepT i_ref11_Dark_r l = keepT [o_,o_,i_,o_,o_,o_,o_,o_,o_,o_,o_,o_,o_,o_,o_,o_,o_,o_,o_,o_,o_,o_] l := rfl
@[go_sem] theorem kt_ref11_Dark_j1 (l : List AV) : keepT i_ref11_Dark_j1 l = keepT [o_,i_,o_,i_,o_,o_,o_,o_,o_,o_,o_,o_,o_,o_,o_,o_,o_,o_,o_,o_,o_,o_] l := rfl
@[go_sem] theorem kt_ref11_Dark_k0 (l : List AV) : keepT i_ref11_Dark_k0 l = keepT [o_,i_,o_,i_,o_,o_,o_,o_,o_,o_,o_,o_,o_,o_,o_,o_,o_,o_,o_,o_,o_,o_] l := rfl
@[go_sem] theorem kt_ref11_Dark_j0 (l : List AV) : keepT i_ref11_Dark_j0 l = keepT [o_,o_,o_,o_,o_,o_,o_,o_,o_,o_,o_,o_,o_,o_,o_,o_,o_,o_,o_,o_,o_,o_] l := rfl
@[go_sem] theorem kt_ref11_Cuts_r (l : List AV) : keepT i_ref11_Cuts_r l = keepT [o_,o_,i_,o_,o_,o_,o_,o_,o_,o_,o_,o_,o_,o_,o_,o_,o_,o_,o_,o_,o_,o_,o_,o_,o_,o_,o_] l := rfl
@[go_sem] theorem kt_ref11_Cuts_j1 (l : List AV) : keepT i_ref11_Cuts_j1 l = keepT [o_,i_,o_,i_,i_,o_,o_,o_,o_,o_,o_,o_,o_,o_,o_,o_,o_,o_,o_,o_,o_,o_,o_,o_,o_,o_,o_] l := rfl
@[go_sem] theorem kt_ref11_Cuts_k0 (l : List AV) : keepT i_ref11_Cuts_k0 l = keepT [o_,i_,o_,i_,i_,o_,o_,o_,o_,o_,o_,o_,o_,o_,o_,o_,o_,o_,o_,o_,o_,o_,o_,o_,o_,o_,o_] l := rfl
@[go_sem] theorem kt_ref11_Cuts_j0 (l : List AV) : keepT i_ref11_Cuts_j0 l = keepT [o_,o_,o_,i_,o_,o_,o_,o_,o_,o_,o_,o_,o_,o_,o_,o_,o_,o_,o_,o_,o_,o_,o_,o_,o_,o_,o_] l := rfl
@[go_sem] theorem kt_ref11_Fits_r (l : List AV) : keepT i_ref11_Fits_r l = keepT [o_,o_,o_,o_,o_,o_,o_,o_,o_,o_,i_,o_,o_,o_,o_,o_,o_,o_,o_,o_,o_,o_,o_,o_,o_,o_,o_,o_,o_,o_,o_,o_,o_,o_,o_,o_,o_,o_,o_,o_,o_,o_,o_,o_,o_,o_,o_,o_,o_,o_,o_,o_,o_,o_,o_,o_,o_,o_,o_,o_,o_,o_,o_,o_,o_,o_,o_,o_,o_] l := rfl
@[go_sem] theorem kt_ref04_Digest_r (l : List AV) : keepT i_ref04_Digest_r l = keepT [o_,o_,o_,o_,o_,o_,i_,i_,o_,o_,o_,o_,o_,o_,o_,o_,o_,o_,o_,o_,o_,o_,o_,o_,o_,o_,o_,o_,o_,o_,o_,o_,o_,o_,o_,o_,o_,o_,o_,o_,o_,o_,o_,o_,o_,o_,o_,o_,o_,o_,o_,o_,o_,o_,o_,o_,o_,o_,o_,o_,o_,o_,o_,o_,o_,o_,o_,o_,o_,o_,o_,o_,o_,o_,o_,o_,o_,o_,o_,o_,o_,o_,o_,o_,o_,o_] l := rfl
@[go_sem] theorem kt_ref04_Digest_j0 (l : List AV) : keepT i_ref04_Digest_j0 l = keepT [o_,i_,o_,i_,o_,i_,o_,o_,o_,o_,o_,o_,o_,o_,o_,o_,o_,o_,o_,o_,o_,o_,o_,o_,o_,o_,o_,o_,o_,o_,o_,o_,o_,o_,o_,o_,o_,o_,o_,o_,o_,o_,o_,o_,o_,o_,o_,o_,o_,o_,o_,o_,o_,o_,o_,o_,o_,o_,o_,o_,o_,o_,o_,o_,o_,o_,o_,o_,o_,o_,o_,o_,o_,o_,o_,o_,o_,o_,o_,o_,o_,o_,o_,o_,o_,o_] l := rfl
@[go_sem] theorem kt_ref03_Of_r (l : List AV) : keepT i_ref03_Of_r l = keepT [o_,o_,o_,o_,o_,o_,i_,o_,o_,o_,o_,o_] l := rfl
@[go_sem] theorem kt_ref01_Tables_Sum_r (l : List AV) : keepT i_ref01_Tables_Sum_r l = keepT [o_,o_,o_,o_,i_,o_,o_,o_,o_,o_,o_,o_,o_,o_,o_,o_,o_,o_,o_,o_,o_,o_,o_,o_,o_,o_,o_,o_,o_,o_,o_,o_,o_,o_,o_,o_,o_,o_,o_,o_,o_,o_,o_,o_,o_,o_,o_,o_,o_,o_,o_,o_,o_] l := rfl
@[go_sem] theorem kt_ref01_Tables_Sum_j1 (l : List AV) : keepT i_ref01_Tables_Sum_j1 l = keepT [o_,o_,i_,o_,o_,i_,i_,i_,o_,o_,o_,o_,o_,o_,o_,o_,o_,o_,o_,o_,o_,o_,o_,o_,o_,o_,o_,o_,o_,o_,o_,o_,o_,o_,o_,o_,o_,o_,o_,o_,o_,o_,o_,o_,o_,o_,o_,o_,o_,o_,o_,o_,o_] l := rfl
@[go_sem] theorem kt_ref01_Tables_Sum_k0 (l : List AV) : keepT i_ref01_Tables_Sum_k0 l = keepT [o_,o_,i_,o_,o_,i_,i_,i_,o_,o_,o_,o_,o_,o_,o_,o_,o_,o_,o_,o_,o_,o_,o_,o_,o_,o_,o_,o_,o_,o_,o_,o_,o_,o_,o_,o_,o_,o_,o_,o_,o_,o_,o_,o_,o_,o_,o_,o_,o_,o_,o_,o_,o_] l := rfl
@[go_sem] theorem kt_ref01_Tables_Sum_j0 (l : List AV) : keepT i_ref01_Tables_Sum_j0 l = keepT [o_,o_,o_,o_,o_,o_,i_,o_,o_,o_,o_,o_,o_,o_,o_,o_,o_,o_,o_,o_,o_,o_,o_,o_,o_,o_,o_,o_,o_,o_,o_,o_,o_,o_,o_,o_,o_,o_,o_,o_,o_,o_,o_,o_,o_,o_,o_,o_,o_,o_,o_,o_,o_] l := rfl
@[go_sem] theorem kt_ref01_Tables_Sum_j3 (l : List AV) : keepT i_ref01_Tables_Sum_j3 l = keepT [o_,o_,o_,o_,o_,o_,i_,o_,i_,i_,o_,o_,o_,o_,o_,o_,o_,o_,o_,o_,o_,o_,o_,o_,o_,o_,o_,o_,o_,o_,o_,o_,o_,o_,o_,o_,o_,o_,o_,o_,o_,o_,o_,o_,o_,o_,o_,o_,o_,o_,o_,o_,o_] l := rfl
@[go_sem] theorem kt_ref01_Tables_Sum_k1 (l : List AV) : keepT i_ref01_Tables_Sum_k1 l = keepT [o_,o_,o_,o_,o_,o_,i_,o_,i_,i_,o_,o_,o_,o_,o_,o_,o_,o_,o_,o_,o_,o_,o_,o_,o_,o_,o_,o_,o_,o_,o_,o_,o_,o_,o_,o_,o_,o_,o_,o_,o_,o_,o_,o_,o_,o_,o_,o_,o_,o_,o_,o_,o_] l := rfl
@[go_sem] theorem kt_ref01_Tables_Sum_j2 (l : List AV) : keepT i_ref01_Tables_Sum_j2 l = keepT [o_,o_,o_,o_,o_,o_,o_,o_,i_,o_,o_,o_,o_,o_,o_,o_,o_,o_,o_,o_,o_,o_,o_,o_,o_,o_,o_,o_,o_,o_,o_,o_,o_,o_,o_,o_,o_,o_,o_,o_,o_,o_,o_,o_,o_,o_,o_,o_,o_,o_,o_,o_,o_] l := rfl
@[go_sem] theorem kt_ref01_Tail_r (l : List AV) : keepT i_ref01_Tail_r l = keepT [o_,o_,i_,o_,o_,o_,o_,o_,o_,o_,o_,o_,o_,o_,o_,o_,o_,o_,o_,o_,o_,o_,o_,o_,o_,o_,o_,o_,o_,o_,o_,o_,o_,o_,o_,o_] l := rfl
@[go_sem] theorem kt_ref01_Tail_j1 (l : List AV) : keepT i_ref01_Tail_j1 l = keepT [i_,o_,o_,i_,o_,o_,o_,o_,o_,o_,o_,o_,o_,o_,o_,o_,o_,o_,o_,o_,o_,o_,o_,o_,o_,o_,o_,o_,o_,o_,o_,o_,o_,o_,o_,o_] l := rfl
@[go_sem] theorem kt_ref01_Tail_k0 (l : List AV) : keepT i_ref01_Tail_k0 l = keepT [i_,o_,o_,i_,o_,o_,o_,o_,o_,o_,o_,o_,o_,o_,o_,o_,o_,o_,o_,o_,o_,o_,o_,o_,o_,o_,o_,o_,o_,o_,o_,o_,o_,o_,o_,o_] l := rfl
@[go_sem] theorem kt_ref01_Tail_j0 (l : List AV) : keepT i_ref01_Tail_j0 l = keepT [i_,o_,o_,i_,o_,o_,o_,o_,o_,o_,o_,o_,o_,o_,o_,o_,o_,o_,o_,o_,o_,o_,o_,o_,o_,o_,o_,o_,o_,o_,o_,o_,o_,o_,o_,o_] l := rfl
@[go_sem] theorem kt_ref01_Tail_j3 (l : List AV) : keepT i_ref01_Tail_j3 l = keepT [o_,o_,o_,i_,i_,i_,i_,o_,o_,o_,o_,o_,o_,o_,o_,o_,o_,o_,o_,o_,o_,o_,o_,o_,o_,o_,o_,o_,o_,o_,o_,o_,o_,o_,o_,o_] l := rfl
@[go_sem] theorem kt_ref01_Tail_k1 (l : List AV) : keepT i_ref01_Tail_k1 l = keepT [o_,o_,o_,i_,i_,i_,i_,o_,o_,o_,o_,o_,o_,o_,o_,o_,o_,o_,o_,o_,o_,o_,o_,o_,o_,o_,o_,o_,o_,o_,o_,o_,o_,o_,o_,o_] l := rfl
@[go_sem] theorem kt_ref01_Tail_j2 (l : List AV) : keepT i_ref01_Tail_j2 l = keepT [o_,o_,o_,i_,i_,o_,o_,o_,o_,o_,o_,o_,o_,o_,o_,o_,o_,o_,o_,o_,o_,o_,o_,o_,o_,o_,o_,o_,o_,o_,o_,o_,o_,o_,o_,o_] l := rfl
@[go_sem] theorem kt_ref01_Tables_Step_r (l : List AV) : keepT i_ref01_Tables_Step_r l = keepT [o_,o_,o_,o_,o_,o_,i_,o_,o_,o_,o_,o_,o_,o_,o_,o_,o_,o_,o_,o_,o_,o_,o_,o_,o_,o_,o_,o_,o_,o_,o_,o_,o_,o_,o_,o_,o_,o_,o_,o_,o_,o_,o_] l := rfl
@[go_sem] theorem kt_ref01_Tables_Step_j1 (l : List AV) : keepT i_ref01_Tables_Step_j1 l = keepT [o_,o_,o_,i_,i_,o_,i_,i_,i_,i_,o_,o_,o_,o_,o_,o_,o_,o_,o_,o_,o_,o_,o_,o_,o_,o_,o_,o_,o_,o_,o_,o_,o_,o_,o_,o_,o_,o_,o_,o_,o_,o_,o_] l := rfl
@[go_sem] theorem kt_ref01_Tables_Step_k0 (l : List AV) : keepT i_ref01_Tables_Step_k0 l = keepT [o_,o_,o_,i_,i_,o_,i_,i_,i_,i_,o_,o_,o_,o_,o_,o_,o_,o_,o_,o_,o_,o_,o_,o_,o_,o_,o_,o_,o_,o_,o_,o_,o_,o_,o_,o_,o_,o_,o_,o_,o_,o_,o_] l := rfl
@[go_sem] theorem kt_ref01_Tables_Step_j0 (l : List AV) : keepT i_ref01_Tables_Step_j0 l = keepT [o_,o_,o_,o_,i_,o_,i_,o_,i_,o_,o_,o_,o_,o_,o_,o_,o_,o_,o_,o_,o_,o_,o_,o_,o_,o_,o_,o_,o_,o_,o_,o_,o_,o_,o_,o_,o_,o_,o_,o_,o_,o_,o_] l := rfl
@[go_sem] theorem kt_ref01_Tables_Step_j3 (l : List AV) : keepT i_ref01_Tables_Step_j3 l = keepT [o_,o_,o_,o_,i_,o_,i_,o_,i_,o_,i_,o_,o_,o_,o_,o_,o_,o_,o_,o_,o_,o_,o_,o_,o_,o_,o_,o_,o_,o_,o_,o_,o_,o_,o_,o_,o_,o_,o_,o_,o_,o_,o_] l := rfl
@[go_sem] theorem kt_ref01_Tables_Step_k1 (l : List AV) : keepT i_ref01_Tables_Step_k1 l = keepT [o_,o_,o_,o_,i_,o_,i_,o_,i_,o_,i_,o_,o_,o_,o_,o_,o_,o_,o_,o_,o_,o_,o_,o_,o_,o_,o_,o_,o_,o_,o_,o_,o_,o_,o_,o_,o_,o_,o_,o_,o_,o_,o_] l := rfl
@[go_sem] theorem kt_ref01_Tables_Step_j2 (l : List AV) : keepT i_ref01_Tables_Step_j2 l = keepT [o_,o_,o_,o_,o_,o_,i_,o_,i_,o_,o_,o_,o_,o_,o_,o_,o_,o_,o_,o_,o_,o_,o_,o_,o_,o_,o_,o_,o_,o_,o_,o_,o_,o_,o_,o_,o_,o_,o_,o_,o_,o_,o_] l := rfl
@[go_sem] theorem kt_ref01_Words_r (l : List AV) : keepT i_ref01_Words_r l = keepT [o_,o_,i_,o_,o_,o_,o_,o_,o_,o_,o_,o_,o_,o_,o_,o_,o_,o_,o_,o_,o_,o_,o_,o_,o_,o_,o_,o_,o_,o_,o_,o_,o_,o_,o_,o_,o_,o_,o_,o_,o_,o_,o_,o_,o_,o_,o_,o_,o_,o_,o_,o_,o_,o_,o_,o_,o_,o_,o_,o_,o_,o_,o_,o_,o_,o_,o_,o_,o_,o_,o_,o_,o_,o_,o_,o_,o_,o_,o_,o_,o_,o_,o_,o_,o_,o_,o_,o_,o_,o_,o_,o_,o_,o_,o_,o_] l := rfl
@[go_sem] theorem kt_ref01_Words_j3 (l : List AV) : keepT i_ref01_Words_j3 l = keepT [i_,o_,o_,i_,i_,i_,i_,o_,o_,o_,o_,o_,o_,o_,o_,o_,o_,o_,o_,o_,o_,o_,o_,o_,o_,o_,o_,o_,o_,o_,o_,o_,o_,o_,o_,o_,o_,o_,o_,o_,o_,o_,o_,o_,o_,o_,o_,o_,o_,o_,o_,o_,o_,o_,o_,o_,o_,o_,o_,o_,o_,o_,o_,o_,o_,o_,o_,o_,o_,o_,o_,o_,o_,o_,o_,o_,o_,o_,o_,o_,o_,o_,o_,o_,o_,o_,o_,o_,o_,o_,o_,o_,o_,o_,o_,o_] l := rfl
@[go_sem] theorem kt_ref01_Words_k1 (l : List AV) : keepT i_ref01_Words_k1 l = keepT [i_,o_,o_,i_,i_,i_,i_,o_,o_,o_,o_,o_,o_,o_,o_,o_,o_,o_,o_,o_,o_,o_,o_,o_,o_,o_,o_,o_,o_,o_,o_,o_,o_,o_,o_,o_,o_,o_,o_,o_,o_,o_,o_,o_,o_,o_,o_,o_,o_,o_,o_,o_,o_,o_,o_,o_,o_,o_,o_,o_,o_,o_,o_,o_,o_,o_,o_,o_,o_,o_,o_,o_,o_,o_,o_,o_,o_,o_,o_,o_,o_,o_,o_,o_,o_,o_,o_,o_,o_,o_,o_,o_,o_,o_,o_,o_] l := rfl
@[go_sem] theorem kt_ref01_Words_j2 (l : List AV) : keepT i_ref01_Words_j2 l = keepT [i_,o_,o_,i_,i_,i_,o_,o_,o_,o_,o_,o_,o_,o_,o_,o_,o_,o_,o_,o_,o_,o_,o_,o_,o_,o_,o_,o_,o_,o_,o_,o_,o_,o_,o_,o_,o_,o_,o_,o_,o_,o_,o_,o_,o_,o_,o_,o_,o_,o_,o_,o_,o_,o_,o_,o_,o_,o_,o_,o_,o_,o_,o_,o_,o_,o_,o_,o_,o_,o_,o_,o_,o_,o_,o_,o_,o_,o_,o_,o_,o_,o_,o_,o_,o_,o_,o_,o_,o_,o_,o_,o_,o_,o_,o_,o_] l := rfl
@[go_sem] theorem kt_ref01_Words_j1 (l : List AV) : keepT i_ref01_Words_j1 l = keepT [i_,o_,o_,i_,i_,o_,o_,o_,o_,o_,o_,o_,o_,o_,o_,o_,o_,o_,o_,o_,o_,o_,o_,o_,o_,o_,o_,o_,o_,o_,o_,o_,o_,o_,o_,o_,o_,o_,o_,o_,o_,o_,o_,o_,o_,o_,o_,o_,o_,o_,o_,o_,o_,o_,o_,o_,o_,o_,o_,o_,o_,o_,o_,o_,o_,o_,o_,o_,o_,o_,o_,o_,o_,o_,o_,o_,o_,o_,o_,o_,o_,o_,o_,o_,o_,o_,o_,o_,o_,o_,o_,o_,o_,o_,o_,o_] l := rfl
@[go_sem] theorem kt_ref01_Words_k0 (l : List AV) : keepT i_ref01_Words_k0 l = keepT [i_,o_,o_,i_,i_,o_,o_,o_,o_,o_,o_,o_,o_,o_,o_,o_,o_,o_,o_,o_,o_,o_,o_,o_,o_,o_,o_,o_,o_,o_,o_,o_,o_,o_,o_,o_,o_,o_,o_,o_,o_,o_,o_,o_,o_,o_,o_,o_,o_,o_,o_,o_,o_,o_,o_,o_,o_,o_,o_,o_,o_,o_,o_,o_,o_,o_,o_,o_,o_,o_,o_,o_,o_,o_,o_,o_,o_,o_,o_,o_,o_,o_,o_,o_,o_,o_,o_,o_,o_,o_,o_,o_,o_,o_,o_,o_] l := rfl
@[go_sem] theorem kt_ref01_Words_j0 (l : List AV) : keepT i_ref01_Words_j0 l = keepT [o_,o_,o_,i_,o_,o_,o_,o_,o_,o_,o_,o_,o_,o_,o_,o_,o_,o_,o_,o_,o_,o_,o_,o_,o_,o_,o_,o_,o_,o_,o_,o_,o_,o_,o_,o_,o_,o_,o_,o_,o_,o_,o_,o_,o_,o_,o_,o_,o_,o_,o_,o_,o_,o_,o_,o_,o_,o_,o_,o_,o_,o_,o_,o_,o_,o_,o_,o_,o_,o_,o_,o_,o_,o_,o_,o_,o_,o_,o_,o_,o_,o_,o_,o_,o_,o_,o_,o_,o_,o_,o_,o_,o_,o_,o_,o_] l := rfl
@[go_sem] theorem kt_ref01_Words_j5 (l : List AV) : keepT i_ref01_Words_j5 l = keepT [o_,o_,o_,i_,o_,o_,o_,i_,o_,o_,o_,o_,o_,o_,o_,o_,o_,o_,o_,o_,o_,o_,o_,o_,o_,o_,o_,o_,o_,o_,o_,o_,o_,o_,o_,o_,o_,o_,o_,o_,o_,o_,o_,o_,o_,o_,o_,o_,o_,o_,o_,o_,o_,o_,o_,o_,o_,o_,o_,o_,o_,o_,o_,o_,o_,o_,o_,o_,o_,o_,o_,o_,o_,o_,o_,o_,o_,o_,o_,o_,o_,o_,o_,o_,o_,o_,o_,o_,o_,o_,o_,o_,o_,o_,o_,o_] l := rfl
@[go_sem] theorem kt_ref01_Words_k2 (l : List AV) : keepT i_ref01_Words_k2 l = keepT [o_,o_,o_,i_,o_,o_,o_,i_,o_,o_,o_,o_,o_,o_,o_,o_,o_,o_,o_,o_,o_,o_,o_,o_,o_,o_,o_,o_,o_,o_,o_,o_,o_,o_,o_,o_,o_,o_,o_,o_,o_,o_,o_,o_,o_,o_,o_,o_,o_,o_,o_,o_,o_,o_,o_,o_,o_,o_,o_,o_,o_,o_,o_,o_,o_,o_,o_,o_,o_,o_,o_,o_,o_,o_,o_,o_,o_,o_,o_,o_,o_,o_,o_,o_,o_,o_,o_,o_,o_,o_,o_,o_,o_,o_,o_,o_] l := rfl
@[go_sem] theorem kt_ref01_Words_j4 (l : List AV) : keepT i_ref01_Words_j4 l = keepT [o_,o_,o_,i_,o_,o_,o_,o_,o_,o_,o_,o_,o_,o_,o_,o_,o_,o_,o_,o_,o_,o_,o_,o_,o_,o_,o_,o_,o_,o_,o_,o_,o_,o_,o_,o_,o_,o_,o_,o_,o_,o_,o_,o_,o_,o_,o_,o_,o_,o_,o_,o_,o_,o_,o_,o_,o_,o_,o_,o_,o_,o_,o_,o_,o_,o_,o_,o_,o_,o_,o_,o_,o_,o_,o_,o_,o_,o_,o_,o_,o_,o_,o_,o_,o_,o_,o_,o_,o_,o_,o_,o_,o_,o_,o_,o_] l := rfl
@[go_sem] theorem kt_ref01_turn_r (l : List AV) : keepT i_ref01_turn_r l = keepT [o_,o_,o_,o_,i_,o_,o_,o_,o_,o_,o_,o_,o_] l := rfl
@[go_sem] theorem kt_ref01_Round_r (l : List AV) : keepT i_ref01_Round_r l = keepT [o_,o_,o_,o_,o_,o_,i_,o_,o_,o_,o_,o_,o_,o_,o_,o_,o_,o_,o_,o_,o_,o_,o_,o_,o_,o_,o_,o_,o_,o_,o_,o_,o_,o_,o_,o_,o_,o_,o_,o_,o_,o_,o_,o_,o_,o_,o_,o_,o_,o_,o_,o_,o_,o_,o_,o_,o_,o_,o_,o_,o_,o_,o_,o_,o_,o_,o_,o_,o_,o_,o_,o_,o_,o_,o_,o_,o_,o_,o_,o_,o_,o_,o_] l := rfl
@[go_sem] theorem kt_ref03_Value_r (l : List AV) : keepT i_ref03_Value_r l = keepT [o_,o_,i_,o_,o_,o_] l := rfl
@[go_sem] theorem kt_ref03_Pair_r (l : List AV) : keepT i_ref03_Pair_r l = keepT [o_,o_,o_,o_,i_,o_,o_,o_,o_,o_,o_,o_,o_] l := rfl
@[go_sem] theorem kt_ref02_Bytes_r (l : List AV) : keepT i_ref02_Bytes_r l = keepT [o_,o_,i_,o_,o_,o_,o_,o_,o_] l := rfl
@[go_sem] theorem kt_ref02_Number_r (l : List AV) : keepT i_ref02_Number_r l = keepT [o_,o_,i_,o_,o_,o_,o_,o_,o_,o_,o_,o_,o_,o_,o_,o_,o_,o_,o_,o_,o_,o_,o_,o_,o_,o_] l := rfl
@[go_sem] theorem kt_ref02_Number_j1 (l : List AV) : keepT i_ref02_Number_j1 l = keepT [i_,o_,o_,i_,o_,o_,o_,o_,o_,o_,o_,o_,o_,o_,o_,o_,o_,o_,o_,o_,o_,o_,o_,o_,o_,o_] l := rfl
@[go_sem] theorem kt_ref02_Number_k0 (l : List AV) : keepT i_ref02_Number_k0 l = keepT [i_,o_,o_,i_,o_,o_,o_,o_,o_,o_,o_,o_,o_,o_,o_,o_,o_,o_,o_,o_,o_,o_,o_,o_,o_,o_] l := rfl
@[go_sem] theorem kt_ref02_Number_j0 (l : List AV) : keepT i_ref02_Number_j0 l = keepT [o_,o_,o_,i_,o_,o_,o_,o_,o_,o_,o_,o_,o_,o_,o_,o_,o_,o_,o_,o_,o_,o_,o_,o_,o_,o_] l := rfl
@[go_sem] theorem kt_ref03_Node_r (l : List AV) : keepT i_ref03_Node_r l = keepT [o_,o_,o_,o_,o_,o_,i_,o_,o_,o_,o_,o_,o_,o_,o_,o_,o_] l := rfl
@[go_sem] theorem kt_ref04_Full_r (l : List AV) : keepT i_ref04_Full_r l = keepT [o_,o_,i_,o_,o_,o_,o_,o_,o_,o_,o_,o_,o_,o_,o_,o_,o_,o_,o_,o_,o_,o_,o_] l := rfl
@[go_sem] theorem kt_ref04_Full_j1 (l : List AV) : keepT i_ref04_Full_j1 l = keepT [o_,i_,o_,i_,o_,o_,o_,o_,o_,o_,o_,o_,o_,o_,o_,o_,o_,o_,o_,o_,o_,o_,o_] l := rfl
@[go_sem] theorem kt_ref04_Full_k0 (l : List AV) : keepT i_ref04_Full_k0 l = keepT [o_,i_,o_,i_,o_,o_,o_,o_,o_,o_,o_,o_,o_,o_,o_,o_,o_,o_,o_,o_,o_,o_,o_] l := rfl
@[go_sem] theorem kt_ref04_Full_j0 (l : List AV) : keepT i_ref04_Full_j0 l = keepT [o_,o_,o_,o_,o_,o_,o_,o_,o_,o_,o_,o_,o_,o_,o_,o_,o_,o_,o_,o_,o_,o_,o_] l := rfl
@[go_sem] theorem kt_ref11_fill_r (l : List AV) : keepT i_ref11_fill_r l = keepT [o_,o_,o_,o_,o_,o_,i_,i_,o_,o_,o_,o_,o_,o_,o_,o_,o_,o_,o_,o_,o_,o_,o_,o_,o_,o_,o_,o_,o_,o_,o_,o_,o_,o_,o_,o_,o_,o_,o_,o_,o_,o_,o_,o_,o_,o_,o_,o_,o_,o_,o_,o_,o_,o_,o_] l := rfl
@[go_sem] theorem kt_law00_Is_r (l : List AV) : keepT i_law00_Is_r l = keepT [o_,o_,o_,o_,o_,o_,i_,o_,o_,o_,o_,o_,o_,o_,o_,o_,o_,o_,o_,o_,o_,o_,o_,o_,o_,o_,o_,o_,o_,o_,o_,o_,o_,o_,o_,o_,o_,o_,o_,o_,o_,o_,o_,o_,o_,o_,o_] l := rfl
@[go_sem] theorem kt_ref04_Same_r (l : List AV) : keepT i_ref04_Same_r l = keepT [o_,o_,o_,o_,i_,o_,o_,o_,o_,o_,o_,o_,o_,o_,o_,o_,o_,o_,o_,o_,o_,o_,o_,o_,o_,o_,o_,o_,o_,o_,o_,o_,o_,o_,o_,o_,o_,o_,o_,o_,o_,o_,o_,o_,o_,o_,o_,o_,o_,o_,o_,o_,o_,o_,o_,o_,o_,o_,o_,o_,o_,o_,o_,o_,o_,o_,o_,o_] l := rfl
@[go_sem] theorem kt_ref04_Same_j1 (l : List AV) : keepT i_ref04_Same_j1 l = keepT [o_,o_,i_,i_,o_,i_,o_,o_,o_,o_,o_,o_,o_,o_,o_,o_,o_,o_,o_,o_,o_,o_,o_,o_,o_,o_,o_,o_,o_,o_,o_,o_,o_,o_,o_,o_,o_,o_,o_,o_,o_,o_,o_,o_,o_,o_,o_,o_,o_,o_,o_,o_,o_,o_,o_,o_,o_,o_,o_,o_,o_,o_,o_,o_,o_,o_,o_,o_] l := rfl
@[go_sem] theorem kt_ref04_Same_k0 (l : List AV) : keepT i_ref04_Same_k0 l = keepT [o_,o_,i_,i_,o_,i_,o_,o_,o_,o_,o_,o_,o_,o_,o_,o_,o_,o_,o_,o_,o_,o_,o_,o_,o_,o_,o_,o_,o_,o_,o_,o_,o_,o_,o_,o_,o_,o_,o_,o_,o_,o_,o_,o_,o_,o_,o_,o_,o_,o_,o_,o_,o_,o_,o_,o_,o_,o_,o_,o_,o_,o_,o_,o_,o_,o_,o_,o_] l := rfl
@[go_sem] theorem kt_ref04_Same_j0 (l : List AV) : keepT i_ref04_Same_j0 l = keepT [o_,o_,o_,o_,o_,o_,o_,o_,o_,o_,o_,o_,o_,o_,o_,o_,o_,o_,o_,o_,o_,o_,o_,o_,o_,o_,o_,o_,o_,o_,o_,o_,o_,o_,o_,o_,o_,o_,o_,o_,o_,o_,o_,o_,o_,o_,o_,o_,o_,o_,o_,o_,o_,o_,o_,o_,o_,o_,o_,o_,o_,o_,o_,o_,o_,o_,o_,o_] l := rfl
@[go_sem] theorem kt_law00_Code_r (l : List AV) : keepT i_law00_Code_r l = keepT [o_,o_,i_,o_,o_,o_,o_,o_,o_,o_,o_,o_,o_,o_,o_] l := rfl
@[go_sem] theorem kt_law00_Code_j1 (l : List AV) : keepT i_law00_Code_j1 l = keepT [i_,o_,o_,i_,o_,o_,o_,o_,o_,o_,o_,o_,o_,o_,o_] l := rfl
@[go_sem] theorem kt_law00_Code_k0 (l : List AV) : keepT i_law00_Code_k0 l = keepT [i_,o_,o_,i_,o_,o_,o_,o_,o_,o_,o_,o_,o_,o_,o_] l := rfl
@[go_sem] theorem kt_law00_Code_j0 (l : List AV) : keepT i_law00_Code_j0 l = keepT [o_,o_,o_,o_,o_,o_,o_,o_,o_,o_,o_,o_,o_,o_,o_] l := rfl
noncomputable def L_ref05_Grown_0 (st : St) : Option (Ex × St) := lp tab G0 2 i_ref05_Grown_k0 i_ref05_Grown_b0 st
@[go_sem] theorem L_ref05_Grown_0_in (K : List Fr) (st : St) : app tab G0 2 K (ex tab G0 2 (.loop i_ref05_Grown_k0 i_ref05_Grown_b0) st) = app tab G0 2 K (L_ref05_Grown_0 (clean 2 i_ref05_Grown_k0 st)) := rfl
noncomputable def L_slices_IndexFunc_sl_api_Tree_api_Tree_0 (st : St) : Option (Ex × St) := lp tab G0 0 i_slices_IndexFunc_sl_api_Tree_api_Tree_k0 i_slices_IndexFunc_sl_api_Tree_api_Tree_b0 st
theorem L_slices_IndexFunc_sl_api_Tree_api_Tree_0_eq (st : St) : L_slices_IndexFunc_sl_api_Tree_api_Tree_0 st = againL L_slices_IndexFunc_sl_api_Tree_api_Tree_0 0 i_slices_IndexFunc_sl_api_Tree_api_Tree_k0 (app tab G0 0 [] (ex tab G0 0 i_slices_IndexFunc_sl_api_Tree_api_Tree_b0 st)) := lp_eq tab G0 0 i_slices_IndexFunc_sl_api_Tree_api_Tree_k0 i_slices_IndexFunc_sl_api_Tree_api_Tree_b0 st
@[go_sem] theorem L_slices_IndexFunc_sl_api_Tree_api_Tree_0_in (K : List Fr) (st : St) : app tab G0 0 K (ex tab G0 0 (.loop i_slices_IndexFunc_sl_api_Tree_api_Tree_k0 i_slices_IndexFunc_sl_api_Tree_api_Tree_b0) st) = app tab G0 0 K (L_slices_IndexFunc_sl_api_Tree_api_Tree_0 (clean 0 i_slices_IndexFunc_sl_api_Tree_api_Tree_k0 st)) := rfl
noncomputable def L_sha_Sum_1 (st : St) : Option (Ex × St) := lp tab G0 3 i_sha_Sum_k1 i_sha_Sum_b1 st
theorem L_sha_Sum_1_eq (st : St) : L_sha_Sum_1 st = againL L_sha_Sum_1 3 i_sha_Sum_k1 (app tab G0 3 [] (ex tab G0 3 i_sha_Sum_b1 st)) := lp_eq tab G0 3 i_sha_Sum_k1 i_sha_Sum_b1 st
@[go_sem] theorem L_sha_Sum_1_in (K : List Fr) (st : St) : app tab G0 3 K (ex tab G0 3 (.loop i_sha_Sum_k1 i_sha_Sum_b1) st) = app tab G0 3 K (L_sha_Sum_1 (clean 3 i_sha_Sum_k1 st)) := rfl
noncomputable def L_sha_Sum_0 (st : St) : Option (Ex × St) := lp tab G0 3 i_sha_Sum_k0 i_sha_Sum_b0 st
theorem L_sha_Sum_0_eq (st : St) : L_sha_Sum_0 st = againL L_sha_Sum_0 3 i_sha_Sum_k0 (app tab G0 3 [] (ex tab G0 3 i_sha_Sum_b0 st)) := lp_eq tab G0 3 i_sha_Sum_k0 i_sha_Sum_b0 st
@[go_sem] theorem L_sha_Sum_0_in (K : List Fr) (st : St) : app tab G0 3 K (ex tab G0 3 (.loop i_sha_Sum_k0 i_sha_Sum_b0) st) = app tab G0 3 K (L_sha_Sum_0 (clean 3 i_sha_Sum_k0 st)) := rfl
noncomputable def L_sha_Sum_2 (st : St) : Option (Ex × St) := lp tab G0 3 i_sha_Sum_k2 i_sha_Sum_b2 st
theorem L_sha_Sum_2_eq (st : St) : L_sha_Sum_2 st = againL L_sha_Sum_2 3 i_sha_Sum_k2 (app tab G0 3 [] (ex tab G0 3 i_sha_Sum_b2 st)) := lp_eq tab G0 3 i_sha_Sum_k2 i_sha_Sum_b2 st
@[go_sem] theorem L_sha_Sum_2_in (K : List Fr) (st : St) : app tab G0 3 K (ex tab G0 3 (.loop i_sha_Sum_k2 i_sha_Sum_b2) st) = app tab G0 3 K (L_sha_Sum_2 (clean 3 i_sha_Sum_k2 st)) := rfl
noncomputable def L_sha_Tail_0 (st : St) : Option (Ex × St) := lp tab G0 1 i_sha_Tail_k0 i_sha_Tail_b0 st
theorem L_sha_Tail_0_eq (st : St) : L_sha_Tail_0 st = againL L_sha_Tail_0 1 i_sha_Tail_k0 (app tab G0 1 [] (ex tab G0 1 i_sha_Tail_b0 st)) := lp_eq tab G0 1 i_sha_Tail_k0 i_sha_Tail_b0 st
@[go_sem] theorem L_sha_Tail_0_in (K : List Fr) (st : St) : app tab G0 1 K (ex tab G0 1 (.loop i_sha_Tail_k0 i_sha_Tail_b0) st) = app tab G0 1 K (L_sha_Tail_0 (clean 1 i_sha_Tail_k0 st)) := rfl
noncomputable def L_sha_Tail_1 (st : St) : Option (Ex × St) := lp tab G0 1 i_sha_Tail_k1 i_sha_Tail_b1 st
theorem L_sha_Tail_1_eq (st : St) : L_sha_Tail_1 st = againL L_sha_Tail_1 1 i_sha_Tail_k1 (app tab G0 1 [] (ex tab G0 1 i_sha_Tail_b1 st)) := lp_eq tab G0 1 i_sha_Tail_k1 i_sha_Tail_b1 st
@[go_sem] theorem L_sha_Tail_1_in (K : List Fr) (st : St) : app tab G0 1 K (ex tab G0 1 (.loop i_sha_Tail_k1 i_sha_Tail_b1) st) = app tab G0 1 K (L_sha_Tail_1 (clean 1 i_sha_Tail_k1 st)) := rfl
noncomputable def L_sha_Step_0 (st : St) : Option (Ex × St) := lp tab G0 3 i_sha_Step_k0 i_sha_Step_b0 st
theorem L_sha_Step_0_eq (st : St) : L_sha_Step_0 st = againL L_sha_Step_0 3 i_sha_Step_k0 (app tab G0 3 [] (ex tab G0 3 i_sha_Step_b0 st)) := lp_eq tab G0 3 i_sha_Step_k0 i_sha_Step_b0 st
@[go_sem] theorem L_sha_Step_0_in (K : List Fr) (st : St) : app tab G0 3 K (ex tab G0 3 (.loop i_sha_Step_k0 i_sha_Step_b0) st) = app tab G0 3 K (L_sha_Step_0 (clean 3 i_sha_Step_k0 st)) := rfl
noncomputable def L_sha_Step_1 (st : St) : Option (Ex × St) := lp tab G0 3 i_sha_Step_k1 i_sha_Step_b1 st
theorem L_sha_Step_1_eq (st : St) : L_sha_Step_1 st = againL L_sha_Step_1 3 i_sha_Step_k1 (app tab G0 3 [] (ex tab G0 3 i_sha_Step_b1 st)) := lp_eq tab G0 3 i_sha_Step_k1 i_sha_Step_b1 st
@[go_sem] theorem L_sha_Step_1_in (K : List Fr) (st : St) : app tab G0 3 K (ex tab G0 3 (.loop i_sha_Step_k1 i_sha_Step_b1) st) = app tab G0 3 K (L_sha_Step_1 (clean 3 i_sha_Step_k1 st)) := rfl
noncomputable def L_sha_Words_0 (st : St) : Option (Ex × St) := lp tab G0 1 i_sha_Words_k0 i_sha_Words_b0 st
theorem L_sha_Words_0_eq (st : St) : L_sha_Words_0 st = againL L_sha_Words_0 1 i_sha_Words_k0 (app tab G0 1 [] (ex tab G0 1 i_sha_Words_b0 st)) := lp_eq tab G0 1 i_sha_Words_k0 i_sha_Words_b0 st
@[go_sem] theorem L_sha_Words_0_in (K : List Fr) (st : St) : app tab G0 1 K (ex tab G0 1 (.loop i_sha_Words_k0 i_sha_Words_b0) st) = app tab G0 1 K (L_sha_Words_0 (clean 1 i_sha_Words_k0 st)) := rfl
noncomputable def L_sha_Words_1 (st : St) : Option (Ex × St) := lp tab G0 1 i_sha_Words_k1 i_sha_Words_b1 st
theorem L_sha_Words_1_eq (st : St) : L_sha_Words_1 st = againL L_sha_Words_1 1 i_sha_Words_k1 (app tab G0 1 [] (ex tab G0 1 i_sha_Words_b1 st)) := lp_eq tab G0 1 i_sha_Words_k1 i_sha_Words_b1 st
@[go_sem] theorem L_sha_Words_1_in (K : List Fr) (st : St) : app tab G0 1 K (ex tab G0 1 (.loop i_sha_Words_k1 i_sha_Words_b1) st) = app tab G0 1 K (L_sha_Words_1 (clean 1 i_sha_Words_k1 st)) := rfl
noncomputable def L_coder_Number_0 (st : St) : Option (Ex × St) := lp tab G0 1 i_coder_Number_k0 i_coder_Number_b0 st
theorem L_coder_Number_0_eq (st : St) : L_coder_Number_0 st = againL L_coder_Number_0 1 i_coder_Number_k0 (app tab G0 1 [] (ex tab G0 1 i_coder_Number_b0 st)) := lp_eq tab G0 1 i_coder_Number_k0 i_coder_Number_b0 st
@[go_sem] theorem L_coder_Number_0_in (K : List Fr) (st : St) : app tab G0 1 K (ex tab G0 1 (.loop i_coder_Number_k0 i_coder_Number_b0) st) = app tab G0 1 K (L_coder_Number_0 (clean 1 i_coder_Number_k0 st)) := rfl
noncomputable def L_coder_Number_1 (st : St) : Option (Ex × St) := lp tab G0 1 i_coder_Number_k1 i_coder_Number_b1 st
theorem L_coder_Number_1_eq (st : St) : L_coder_Number_1 st = againL L_coder_Number_1 1 i_coder_Number_k1 (app tab G0 1 [] (ex tab G0 1 i_coder_Number_b1 st)) := lp_eq tab G0 1 i_coder_Number_k1 i_coder_Number_b1 st
@[go_sem] theorem L_coder_Number_1_in (K : List Fr) (st : St) : app tab G0 1 K (ex tab G0 1 (.loop i_coder_Number_k1 i_coder_Number_b1) st) = app tab G0 1 K (L_coder_Number_1 (clean 1 i_coder_Number_k1 st)) := rfl
noncomputable def L_slices_Concat_sl_byte_byte_0 (st : St) : Option (Ex × St) := lp tab G0 2 i_slices_Concat_sl_byte_byte_k0 i_slices_Concat_sl_byte_byte_b0 st
theorem L_slices_Concat_sl_byte_byte_0_eq (st : St) : L_slices_Concat_sl_byte_byte_0 st = againL L_slices_Concat_sl_byte_byte_0 2 i_slices_Concat_sl_byte_byte_k0 (app tab G0 2 [] (ex tab G0 2 i_slices_Concat_sl_byte_byte_b0 st)) := lp_eq tab G0 2 i_slices_Concat_sl_byte_byte_k0 i_slices_Concat_sl_byte_byte_b0 st
@[go_sem] theorem L_slices_Concat_sl_byte_byte_0_in (K : List Fr) (st : St) : app tab G0 2 K (ex tab G0 2 (.loop i_slices_Concat_sl_byte_byte_k0 i_slices_Concat_sl_byte_byte_b0) st) = app tab G0 2 K (L_slices_Concat_sl_byte_byte_0 (clean 2 i_slices_Concat_sl_byte_byte_k0 st)) := rfl
noncomputable def L_slices_Concat_sl_byte_byte_1 (st : St) : Option (Ex × St) := lp tab G0 2 i_slices_Concat_sl_byte_byte_k1 i_slices_Concat_sl_byte_byte_b1 st
theorem L_slices_Concat_sl_byte_byte_1_eq (st : St) : L_slices_Concat_sl_byte_byte_1 st = againL L_slices_Concat_sl_byte_byte_1 2 i_slices_Concat_sl_byte_byte_k1 (app tab G0 2 [] (ex tab G0 2 i_slices_Concat_sl_byte_byte_b1 st)) := lp_eq tab G0 2 i_slices_Concat_sl_byte_byte_k1 i_slices_Concat_sl_byte_byte_b1 st
@[go_sem] theorem L_slices_Concat_sl_byte_byte_1_in (K : List Fr) (st : St) : app tab G0 2 K (ex tab G0 2 (.loop i_slices_Concat_sl_byte_byte_k1 i_slices_Concat_sl_byte_byte_b1) st) = app tab G0 2 K (L_slices_Concat_sl_byte_byte_1 (clean 2 i_slices_Concat_sl_byte_byte_k1 st)) := rfl
noncomputable def L_chunk_Join_0 (st : St) : Option (Ex × St) := lp tab G0 7 i_chunk_Join_k0 i_chunk_Join_b0 st
theorem L_chunk_Join_0_eq (st : St) : L_chunk_Join_0 st = againL L_chunk_Join_0 7 i_chunk_Join_k0 (app tab G0 7 [] (ex tab G0 7 i_chunk_Join_b0 st)) := lp_eq tab G0 7 i_chunk_Join_k0 i_chunk_Join_b0 st
@[go_sem] theorem L_chunk_Join_0_in (K : List Fr) (st : St) : app tab G0 7 K (ex tab G0 7 (.loop i_chunk_Join_k0 i_chunk_Join_b0) st) = app tab G0 7 K (L_chunk_Join_0 (clean 7 i_chunk_Join_k0 st)) := rfl
noncomputable def L_chunk_cuts_0 (st : St) : Option (Ex × St) := lp tab G0 3 i_chunk_cuts_k0 i_chunk_cuts_b0 st
theorem L_chunk_cuts_0_eq (st : St) : L_chunk_cuts_0 st = againL L_chunk_cuts_0 3 i_chunk_cuts_k0 (app tab G0 3 [] (ex tab G0 3 i_chunk_cuts_b0 st)) := lp_eq tab G0 3 i_chunk_cuts_k0 i_chunk_cuts_b0 st
@[go_sem] theorem L_chunk_cuts_0_in (K : List Fr) (st : St) : app tab G0 3 K (ex tab G0 3 (.loop i_chunk_cuts_k0 i_chunk_cuts_b0) st) = app tab G0 3 K (L_chunk_cuts_0 (clean 3 i_chunk_cuts_k0 st)) := rfl
noncomputable def L_ref04_Light_0 (st : St) : Option (Ex × St) := lp tab G0 1 i_ref04_Light_k0 i_ref04_Light_b0 st
theorem L_ref04_Light_0_eq (st : St) : L_ref04_Light_0 st = againL L_ref04_Light_0 1 i_ref04_Light_k0 (app tab G0 1 [] (ex tab G0 1 i_ref04_Light_b0 st)) := lp_eq tab G0 1 i_ref04_Light_k0 i_ref04_Light_b0 st
@[go_sem] theorem L_ref04_Light_0_in (K : List Fr) (st : St) : app tab G0 1 K (ex tab G0 1 (.loop i_ref04_Light_k0 i_ref04_Light_b0) st) = app tab G0 1 K (L_ref04_Light_0 (clean 1 i_ref04_Light_k0 st)) := rfl
noncomputable def L_law11_all_0 (st : St) : Option (Ex × St) := lp tab G0 0 i_law11_all_k0 i_law11_all_b0 st
theorem L_law11_all_0_eq (st : St) : L_law11_all_0 st = againL L_law11_all_0 0 i_law11_all_k0 (app tab G0 0 [] (ex tab G0 0 i_law11_all_b0 st)) := lp_eq tab G0 0 i_law11_all_k0 i_law11_all_b0 st
@[go_sem] theorem L_law11_all_0_in (K : List Fr) (st : St) : app tab G0 0 K (ex tab G0 0 (.loop i_law11_all_k0 i_law11_all_b0) st) = app tab G0 0 K (L_law11_all_0 (clean 0 i_law11_all_k0 st)) := rfl
noncomputable def L_ref01_Made_1 (st : St) : Option (Ex × St) := lp tab G0 4 i_ref01_Made_k1 i_ref01_Made_b1 st
theorem L_ref01_Made_1_eq (st : St) : L_ref01_Made_1 st = againL L_ref01_Made_1 4 i_ref01_Made_k1 (app tab G0 4 [] (ex tab G0 4 i_ref01_Made_b1 st)) := lp_eq tab G0 4 i_ref01_Made_k1 i_ref01_Made_b1 st
@[go_sem] theorem L_ref01_Made_1_in (K : List Fr) (st : St) : app tab G0 4 K (ex tab G0 4 (.loop i_ref01_Made_k1 i_ref01_Made_b1) st) = app tab G0 4 K (L_ref01_Made_1 (clean 4 i_ref01_Made_k1 st)) := rfl
noncomputable def L_ref01_Made_0 (st : St) : Option (Ex × St) := lp tab G0 4 i_ref01_Made_k0 i_ref01_Made_b0 st
theorem L_ref01_Made_0_eq (st : St) : L_ref01_Made_0 st = againL L_ref01_Made_0 4 i_ref01_Made_k0 (app tab G0 4 [] (ex tab G0 4 i_ref01_Made_b0 st)) := lp_eq tab G0 4 i_ref01_Made_k0 i_ref01_Made_b0 st
@[go_sem] theorem L_ref01_Made_0_in (K : List Fr) (st : St) : app tab G0 4 K (ex tab G0 4 (.loop i_ref01_Made_k0 i_ref01_Made_b0) st) = app tab G0 4 K (L_ref01_Made_0 (clean 4 i_ref01_Made_k0 st)) := rfl
noncomputable def L_ref01_Made_2 (st : St) : Option (Ex × St) := lp tab G0 4 i_ref01_Made_k2 i_ref01_Made_b2 st
theorem L_ref01_Made_2_eq (st : St) : L_ref01_Made_2 st = againL L_ref01_Made_2 4 i_ref01_Made_k2 (app tab G0 4 [] (ex tab G0 4 i_ref01_Made_b2 st)) := lp_eq tab G0 4 i_ref01_Made_k2 i_ref01_Made_b2 st
@[go_sem] theorem L_ref01_Made_2_in (K : List Fr) (st : St) : app tab G0 4 K (ex tab G0 4 (.loop i_ref01_Made_k2 i_ref01_Made_b2) st) = app tab G0 4 K (L_ref01_Made_2 (clean 4 i_ref01_Made_k2 st)) := rfl
noncomputable def L_ref01_Made_3 (st : St) : Option (Ex × St) := lp tab G0 4 i_ref01_Made_k3 i_ref01_Made_b3 st
theorem L_ref01_Made_3_eq (st : St) : L_ref01_Made_3 st = againL L_ref01_Made_3 4 i_ref01_Made_k3 (app tab G0 4 [] (ex tab G0 4 i_ref01_Made_b3 st)) := lp_eq tab G0 4 i_ref01_Made_k3 i_ref01_Made_b3 st
@[go_sem] theorem L_ref01_Made_3_in (K : List Fr) (st : St) : app tab G0 4 K (ex tab G0 4 (.loop i_ref01_Made_k3 i_ref01_Made_b3) st) = app tab G0 4 K (L_ref01_Made_3 (clean 4 i_ref01_Made_k3 st)) := rfl
noncomputable def L_ref01_root_0 (st : St) : Option (Ex × St) := lp tab G0 0 i_ref01_root_k0 i_ref01_root_b0 st
theorem L_ref01_root_0_eq (st : St) : L_ref01_root_0 st = againL L_ref01_root_0 0 i_ref01_root_k0 (app tab G0 0 [] (ex tab G0 0 i_ref01_root_b0 st)) := lp_eq tab G0 0 i_ref01_root_k0 i_ref01_root_b0 st
@[go_sem] theorem L_ref01_root_0_in (K : List Fr) (st : St) : app tab G0 0 K (ex tab G0 0 (.loop i_ref01_root_k0 i_ref01_root_b0) st) = app tab G0 0 K (L_ref01_root_0 (clean 0 i_ref01_root_k0 st)) := rfl
noncomputable def L_ref01_below_0 (st : St) : Option (Ex × St) := lp tab G0 1 i_ref01_below_k0 i_ref01_below_b0 st
theorem L_ref01_below_0_eq (st : St) : L_ref01_below_0 st = againL L_ref01_below_0 1 i_ref01_below_k0 (app tab G0 1 [] (ex tab G0 1 i_ref01_below_b0 st)) := lp_eq tab G0 1 i_ref01_below_k0 i_ref01_below_b0 st
@[go_sem] theorem L_ref01_below_0_in (K : List Fr) (st : St) : app tab G0 1 K (ex tab G0 1 (.loop i_ref01_below_k0 i_ref01_below_b0) st) = app tab G0 1 K (L_ref01_below_0 (clean 1 i_ref01_below_k0 st)) := rfl
noncomputable def L_ref01_times_1 (st : St) : Option (Ex × St) := lp tab G0 1 i_ref01_times_k1 i_ref01_times_b1 st
theorem L_ref01_times_1_eq (st : St) : L_ref01_times_1 st = againL L_ref01_times_1 1 i_ref01_times_k1 (app tab G0 1 [] (ex tab G0 1 i_ref01_times_b1 st)) := lp_eq tab G0 1 i_ref01_times_k1 i_ref01_times_b1 st
@[go_sem] theorem L_ref01_times_1_in (K : List Fr) (st : St) : app tab G0 1 K (ex tab G0 1 (.loop i_ref01_times_k1 i_ref01_times_b1) st) = app tab G0 1 K (L_ref01_times_1 (clean 1 i_ref01_times_k1 st)) := rfl
noncomputable def L_ref01_times_0 (st : St) : Option (Ex × St) := lp tab G0 1 i_ref01_times_k0 i_ref01_times_b0 st
theorem L_ref01_times_0_eq (st : St) : L_ref01_times_0 st = againL L_ref01_times_0 1 i_ref01_times_k0 (app tab G0 1 [] (ex tab G0 1 i_ref01_times_b0 st)) := lp_eq tab G0 1 i_ref01_times_k0 i_ref01_times_b0 st
@[go_sem] theorem L_ref01_times_0_in (K : List Fr) (st : St) : app tab G0 1 K (ex tab G0 1 (.loop i_ref01_times_k0 i_ref01_times_b0) st) = app tab G0 1 K (L_ref01_times_0 (clean 1 i_ref01_times_k0 st)) := rfl
noncomputable def L_ref01_times_2 (st : St) : Option (Ex × St) := lp tab G0 1 i_ref01_times_k2 i_ref01_times_b2 st
theorem L_ref01_times_2_eq (st : St) : L_ref01_times_2 st = againL L_ref01_times_2 1 i_ref01_times_k2 (app tab G0 1 [] (ex tab G0 1 i_ref01_times_b2 st)) := lp_eq tab G0 1 i_ref01_times_k2 i_ref01_times_b2 st
@[go_sem] theorem L_ref01_times_2_in (K : List Fr) (st : St) : app tab G0 1 K (ex tab G0 1 (.loop i_ref01_times_k2 i_ref01_times_b2) st) = app tab G0 1 K (L_ref01_times_2 (clean 1 i_ref01_times_k2 st)) := rfl
noncomputable def L_ref11_Join_0 (st : St) : Option (Ex × St) := lp tab G0 4 i_ref11_Join_k0 i_ref11_Join_b0 st
theorem L_ref11_Join_0_eq (st : St) : L_ref11_Join_0 st = againL L_ref11_Join_0 4 i_ref11_Join_k0 (app tab G0 4 [] (ex tab G0 4 i_ref11_Join_b0 st)) := lp_eq tab G0 4 i_ref11_Join_k0 i_ref11_Join_b0 st
@[go_sem] theorem L_ref11_Join_0_in (K : List Fr) (st : St) : app tab G0 4 K (ex tab G0 4 (.loop i_ref11_Join_k0 i_ref11_Join_b0) st) = app tab G0 4 K (L_ref11_Join_0 (clean 4 i_ref11_Join_k0 st)) := rfl
noncomputable def L_ref04_Deep_0 (st : St) : Option (Ex × St) := lp tab G0 1 i_ref04_Deep_k0 i_ref04_Deep_b0 st
theorem L_ref04_Deep_0_eq (st : St) : L_ref04_Deep_0 st = againL L_ref04_Deep_0 1 i_ref04_Deep_k0 (app tab G0 1 [] (ex tab G0 1 i_ref04_Deep_b0 st)) := lp_eq tab G0 1 i_ref04_Deep_k0 i_ref04_Deep_b0 st
@[go_sem] theorem L_ref04_Deep_0_in (K : List Fr) (st : St) : app tab G0 1 K (ex tab G0 1 (.loop i_ref04_Deep_k0 i_ref04_Deep_b0) st) = app tab G0 1 K (L_ref04_Deep_0 (clean 1 i_ref04_Deep_k0 st)) := rfl
noncomputable def L_ref04_Formed_0 (st : St) : Option (Ex × St) := lp tab G0 1 i_ref04_Formed_k0 i_ref04_Formed_b0 st
theorem L_ref04_Formed_0_eq (st : St) : L_ref04_Formed_0 st = againL L_ref04_Formed_0 1 i_ref04_Formed_k0 (app tab G0 1 [] (ex tab G0 1 i_ref04_Formed_b0 st)) := lp_eq tab G0 1 i_ref04_Formed_k0 i_ref04_Formed_b0 st
@[go_sem] theorem L_ref04_Formed_0_in (K : List Fr) (st : St) : app tab G0 1 K (ex tab G0 1 (.loop i_ref04_Formed_k0 i_ref04_Formed_b0) st) = app tab G0 1 K (L_ref04_Formed_0 (clean 1 i_ref04_Formed_k0 st)) := rfl
noncomputable def L_ref11_Dark_0 (st : St) : Option (Ex × St) := lp tab G0 1 i_ref11_Dark_k0 i_ref11_Dark_b0 st
theorem L_ref11_Dark_0_eq (st : St) : L_ref11_Dark_0 st = againL L_ref11_Dark_0 1 i_ref11_Dark_k0 (app tab G0 1 [] (ex tab G0 1 i_ref11_Dark_b0 st)) := lp_eq tab G0 1 i_ref11_Dark_k0 i_ref11_Dark_b0 st
@[go_sem] theorem L_ref11_Dark_0_in (K : List Fr) (st : St) : app tab G0 1 K (ex tab G0 1 (.loop i_ref11_Dark_k0 i_ref11_Dark_b0) st) = app tab G0 1 K (L_ref11_Dark_0 (clean 1 i_ref11_Dark_k0 st)) := rfl
noncomputable def L_ref11_Cuts_0 (st : St) : Option (Ex × St) := lp tab G0 2 i_ref11_Cuts_k0 i_ref11_Cuts_b0 st
theorem L_ref11_Cuts_0_eq (st : St) : L_ref11_Cuts_0 st = againL L_ref11_Cuts_0 2 i_ref11_Cuts_k0 (app tab G0 2 [] (ex tab G0 2 i_ref11_Cuts_b0 st)) := lp_eq tab G0 2 i_ref11_Cuts_k0 i_ref11_Cuts_b0 st
@[go_sem] theorem L_ref11_Cuts_0_in (K : List Fr) (st : St) : app tab G0 2 K (ex tab G0 2 (.loop i_ref11_Cuts_k0 i_ref11_Cuts_b0) st) = app tab G0 2 K (L_ref11_Cuts_0 (clean 2 i_ref11_Cuts_k0 st)) := rfl
noncomputable def L_ref01_Tables_Sum_0 (st : St) : Option (Ex × St) := lp tab G0 4 i_ref01_Tables_Sum_k0 i_ref01_Tables_Sum_b0 st
theorem L_ref01_Tables_Sum_0_eq (st : St) : L_ref01_Tables_Sum_0 st = againL L_ref01_Tables_Sum_0 4 i_ref01_Tables_Sum_k0 (app tab G0 4 [] (ex tab G0 4 i_ref01_Tables_Sum_b0 st)) := lp_eq tab G0 4 i_ref01_Tables_Sum_k0 i_ref01_Tables_Sum_b0 st
@[go_sem] theorem L_ref01_Tables_Sum_0_in (K : List Fr) (st : St) : app tab G0 4 K (ex tab G0 4 (.loop i_ref01_Tables_Sum_k0 i_ref01_Tables_Sum_b0) st) = app tab G0 4 K (L_ref01_Tables_Sum_0 (clean 4 i_ref01_Tables_Sum_k0 st)) := rfl
noncomputable def L_ref01_Tables_Sum_1 (st : St) : Option (Ex × St) := lp tab G0 4 i_ref01_Tables_Sum_k1 i_ref01_Tables_Sum_b1 st
theorem L_ref01_Tables_Sum_1_eq (st : St) : L_ref01_Tables_Sum_1 st = againL L_ref01_Tables_Sum_1 4 i_ref01_Tables_Sum_k1 (app tab G0 4 [] (ex tab G0 4 i_ref01_Tables_Sum_b1 st)) := lp_eq tab G0 4 i_ref01_Tables_Sum_k1 i_ref01_Tables_Sum_b1 st
@[go_sem] theorem L_ref01_Tables_Sum_1_in (K : List Fr) (st : St) : app tab G0 4 K (ex tab G0 4 (.loop i_ref01_Tables_Sum_k1 i_ref01_Tables_Sum_b1) st) = app tab G0 4 K (L_ref01_Tables_Sum_1 (clean 4 i_ref01_Tables_Sum_k1 st)) := rfl
noncomputable def L_ref01_Tail_0 (st : St) : Option (Ex × St) := lp tab G0 2 i_ref01_Tail_k0 i_ref01_Tail_b0 st
theorem L_ref01_Tail_0_eq (st : St) : L_ref01_Tail_0 st = againL L_ref01_Tail_0 2 i_ref01_Tail_k0 (app tab G0 2 [] (ex tab G0 2 i_ref01_Tail_b0 st)) := lp_eq tab G0 2 i_ref01_Tail_k0 i_ref01_Tail_b0 st
@[go_sem] theorem L_ref01_Tail_0_in (K : List Fr) (st : St) : app tab G0 2 K (ex tab G0 2 (.loop i_ref01_Tail_k0 i_ref01_Tail_b0) st) = app tab G0 2 K (L_ref01_Tail_0 (clean 2 i_ref01_Tail_k0 st)) := rfl
noncomputable def L_ref01_Tail_1 (st : St) : Option (Ex × St) := lp tab G0 2 i_ref01_Tail_k1 i_ref01_Tail_b1 st
theorem L_ref01_Tail_1_eq (st : St) : L_ref01_Tail_1 st = againL L_ref01_Tail_1 2 i_ref01_Tail_k1 (app tab G0 2 [] (ex tab G0 2 i_ref01_Tail_b1 st)) := lp_eq tab G0 2 i_ref01_Tail_k1 i_ref01_Tail_b1 st
@[go_sem] theorem L_ref01_Tail_1_in (K : List Fr) (st : St) : app tab G0 2 K (ex tab G0 2 (.loop i_ref01_Tail_k1 i_ref01_Tail_b1) st) = app tab G0 2 K (L_ref01_Tail_1 (clean 2 i_ref01_Tail_k1 st)) := rfl
noncomputable def L_ref01_Tables_Step_0 (st : St) : Option (Ex × St) := lp tab G0 4 i_ref01_Tables_Step_k0 i_ref01_Tables_Step_b0 st
theorem L_ref01_Tables_Step_0_eq (st : St) : L_ref01_Tables_Step_0 st = againL L_ref01_Tables_Step_0 4 i_ref01_Tables_Step_k0 (app tab G0 4 [] (ex tab G0 4 i_ref01_Tables_Step_b0 st)) := lp_eq tab G0 4 i_ref01_Tables_Step_k0 i_ref01_Tables_Step_b0 st
@[go_sem] theorem L_ref01_Tables_Step_0_in (K : List Fr) (st : St) : app tab G0 4 K (ex tab G0 4 (.loop i_ref01_Tables_Step_k0 i_ref01_Tables_Step_b0) st) = app tab G0 4 K (L_ref01_Tables_Step_0 (clean 4 i_ref01_Tables_Step_k0 st)) := rfl
noncomputable def L_ref01_Tables_Step_1 (st : St) : Option (Ex × St) := lp tab G0 4 i_ref01_Tables_Step_k1 i_ref01_Tables_Step_b1 st
theorem L_ref01_Tables_Step_1_eq (st : St) : L_ref01_Tables_Step_1 st = againL L_ref01_Tables_Step_1 4 i_ref01_Tables_Step_k1 (app tab G0 4 [] (ex tab G0 4 i_ref01_Tables_Step_b1 st)) := lp_eq tab G0 4 i_ref01_Tables_Step_k1 i_ref01_Tables_Step_b1 st
@[go_sem] theorem L_ref01_Tables_Step_1_in (K : List Fr) (st : St) : app tab G0 4 K (ex tab G0 4 (.loop i_ref01_Tables_Step_k1 i_ref01_Tables_Step_b1) st) = app tab G0 4 K (L_ref01_Tables_Step_1 (clean 4 i_ref01_Tables_Step_k1 st)) := rfl
noncomputable def L_ref01_Words_1 (st : St) : Option (Ex × St) := lp tab G0 1 i_ref01_Words_k1 i_ref01_Words_b1 st
theorem L_ref01_Words_1_eq (st : St) : L_ref01_Words_1 st = againL L_ref01_Words_1 1 i_ref01_Words_k1 (app tab G0 1 [] (ex tab G0 1 i_ref01_Words_b1 st)) := lp_eq tab G0 1 i_ref01_Words_k1 i_ref01_Words_b1 st
@[go_sem] theorem L_ref01_Words_1_in (K : List Fr) (st : St) : app tab G0 1 K (ex tab G0 1 (.loop i_ref01_Words_k1 i_ref01_Words_b1) st) = app tab G0 1 K (L_ref01_Words_1 (clean 1 i_ref01_Words_k1 st)) := rfl
noncomputable def L_ref01_Words_0 (st : St) : Option (Ex × St) := lp tab G0 1 i_ref01_Words_k0 i_ref01_Words_b0 st
theorem L_ref01_Words_0_eq (st : St) : L_ref01_Words_0 st = againL L_ref01_Words_0 1 i_ref01_Words_k0 (app tab G0 1 [] (ex tab G0 1 i_ref01_Words_b0 st)) := lp_eq tab G0 1 i_ref01_Words_k0 i_ref01_Words_b0 st
@[go_sem] theorem L_ref01_Words_0_in (K : List Fr) (st : St) : app tab G0 1 K (ex tab G0 1 (.loop i_ref01_Words_k0 i_ref01_Words_b0) st) = app tab G0 1 K (L_ref01_Words_0 (clean 1 i_ref01_Words_k0 st)) := rfl
noncomputable def L_ref01_Words_2 (st : St) : Option (Ex × St) := lp tab G0 1 i_ref01_Words_k2 i_ref01_Words_b2 st
theorem L_ref01_Words_2_eq (st : St) : L_ref01_Words_2 st = againL L_ref01_Words_2 1 i_ref01_Words_k2 (app tab G0 1 [] (ex tab G0 1 i_ref01_Words_b2 st)) := lp_eq tab G0 1 i_ref01_Words_k2 i_ref01_Words_b2 st
@[go_sem] theorem L_ref01_Words_2_in (K : List Fr) (st : St) : app tab G0 1 K (ex tab G0 1 (.loop i_ref01_Words_k2 i_ref01_Words_b2) st) = app tab G0 1 K (L_ref01_Words_2 (clean 1 i_ref01_Words_k2 st)) := rfl
noncomputable def L_ref02_Number_0 (st : St) : Option (Ex × St) := lp tab G0 2 i_ref02_Number_k0 i_ref02_Number_b0 st
theorem L_ref02_Number_0_eq (st : St) : L_ref02_Number_0 st = againL L_ref02_Number_0 2 i_ref02_Number_k0 (app tab G0 2 [] (ex tab G0 2 i_ref02_Number_b0 st)) := lp_eq tab G0 2 i_ref02_Number_k0 i_ref02_Number_b0 st
@[go_sem] theorem L_ref02_Number_0_in (K : List Fr) (st : St) : app tab G0 2 K (ex tab G0 2 (.loop i_ref02_Number_k0 i_ref02_Number_b0) st) = app tab G0 2 K (L_ref02_Number_0 (clean 2 i_ref02_Number_k0 st)) := rfl
noncomputable def L_ref04_Full_0 (st : St) : Option (Ex × St) := lp tab G0 1 i_ref04_Full_k0 i_ref04_Full_b0 st
theorem L_ref04_Full_0_eq (st : St) : L_ref04_Full_0 st = againL L_ref04_Full_0 1 i_ref04_Full_k0 (app tab G0 1 [] (ex tab G0 1 i_ref04_Full_b0 st)) := lp_eq tab G0 1 i_ref04_Full_k0 i_ref04_Full_b0 st
@[go_sem] theorem L_ref04_Full_0_in (K : List Fr) (st : St) : app tab G0 1 K (ex tab G0 1 (.loop i_ref04_Full_k0 i_ref04_Full_b0) st) = app tab G0 1 K (L_ref04_Full_0 (clean 1 i_ref04_Full_k0 st)) := rfl
noncomputable def L_ref04_Same_0 (st : St) : Option (Ex × St) := lp tab G0 2 i_ref04_Same_k0 i_ref04_Same_b0 st
theorem L_ref04_Same_0_eq (st : St) : L_ref04_Same_0 st = againL L_ref04_Same_0 2 i_ref04_Same_k0 (app tab G0 2 [] (ex tab G0 2 i_ref04_Same_b0 st)) := lp_eq tab G0 2 i_ref04_Same_k0 i_ref04_Same_b0 st
@[go_sem] theorem L_ref04_Same_0_in (K : List Fr) (st : St) : app tab G0 2 K (ex tab G0 2 (.loop i_ref04_Same_k0 i_ref04_Same_b0) st) = app tab G0 2 K (L_ref04_Same_0 (clean 2 i_ref04_Same_k0 st)) := rfl
noncomputable def L_law00_Code_0 (st : St) : Option (Ex × St) := lp tab G0 0 i_law00_Code_k0 i_law00_Code_b0 st
@[go_sem] theorem L_law00_Code_0_in (K : List Fr) (st : St) : app tab G0 0 K (ex tab G0 0 (.loop i_law00_Code_k0 i_law00_Code_b0) st) = app tab G0 0 K (L_law00_Code_0 (clean 0 i_law00_Code_k0 st)) := rfl
end Go.Proofs.YtdngljdbgepaiaaGreatDoor
