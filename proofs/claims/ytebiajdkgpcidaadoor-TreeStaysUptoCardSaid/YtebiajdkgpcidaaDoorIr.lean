/- The IR of the seat's functions, printed by a program of this session. -/
import Derived.Test.YtebiajdkgpcidaaDoorIrP0
set_option linter.unusedVariables false
namespace Go.Proofs.YtebiajdkgpcidaaDoor
open Go.Ev

def i_tree_List_r : List Bool := [o_,o_,i_,o_,o_,o_,o_,o_,o_,o_,o_,o_,o_]
/-- heartwood/tree.List -/
def i_tree_List : Ev.Fn := ⟨1, 13, 4, (.seq (.reg [] [⟨(some 1), .box 0 5 (.t 0),none,[]⟩,⟨(some 2), .cn (.k (.slice none 0 0)),none,[]⟩]) (.seq (.seq (.reg [] [⟨(some 5), .load true 5 (.t 1),none,[]⟩,⟨(some 6), .qcall n_tree_Check [(.t 5)] [],none,[]⟩,⟨(some 7), .bin (.iface ty_api_Code true) .neq (.t 6) (.k .nilIface),none,[]⟩]) (.cond (.t 7) (.seq (.reg [] [⟨(some 2), .cn (.k (.slice none 0 0)),none,[]⟩]) (.ret i_tree_List_r)) .skip)) (.seq (.reg [] [⟨(some 3), .new 1 [(.slice none 0 0)],none,[]⟩]) (.seq (.reg [] [⟨(some 4), .new 2 [.nilFunc],none,[]⟩]) (.seq (.reg [] [⟨(some 8), .mkf n_tree_List_1 [(.t 4), (.t 3)],none,[]⟩,⟨none, .store 1 (.t 4) (.t 8),none,[]⟩]) (.seq (.reg [] [⟨(some 9), .load false 1 (.t 4),none,[]⟩,⟨(some 10), .load true 5 (.t 1),none,[]⟩,⟨(some 11), .callv (.t 9) [(.t 10)] [3],none,[]⟩]) (.seq (.reg [] [⟨(some 12), .load false 1 (.t 3),none,[]⟩,⟨(some 2), .cn (.t 12),none,[]⟩]) (.ret i_tree_List_r)))))))),
 [.tmp 2], [], false, []⟩

def i_tree_List_1_r : List Bool := [o_,o_,o_,o_,o_,o_,o_,o_,o_,o_,o_,o_,o_,o_,o_,o_,o_,o_,o_,o_,o_,o_,o_,o_,o_,o_]
/-- heartwood/tree.List$1 -/
def i_tree_List_1 : Ev.Fn := ⟨3, 26, 4, (.seq (.reg [] [⟨(some 3), .box 0 5 (.t 0),none,[]⟩]) (.seq (.seq (.reg [] [⟨(some 4), .fa 4 (.t 3),none,[]⟩,⟨(some 5), .load false 1 (.t 4),none,[]⟩,⟨(some 6), .len false (.t 5),none,[]⟩,⟨(some 7), .bin .plain .eql (.t 6) (.k (.int .i64 0)),none,[]⟩]) (.cond (.t 7) (.ret i_tree_List_1_r) .skip)) (.seq (.reg [] [⟨(some 8), .load false 1 (.t 1),none,[]⟩,⟨(some 9), .fa 4 (.t 3),none,[]⟩,⟨(some 10), .load false 1 (.t 9),none,[]⟩,⟨(some 11), .ia 5 (.t 10) (.k (.int .i64 0)),none,[]⟩,⟨(some 12), .load true 5 (.t 11),none,[]⟩,⟨(some 13), .callv (.t 8) [(.t 12)] [1], none, [12]⟩]) (.seq (.reg [(5, 7), (6, 7)] [⟨(some 14), .load false 1 (.t 2),none,[]⟩,⟨(some 15), .load true 5 (.t 3),none,[]⟩,⟨(some 16), .len false (.t 14),none,[]⟩,⟨(some 17), .litd 5 1 [(.int .i64 0), (.slice none 0 0), (.slice none 0 0), (.slice none 0 0), (.slice none 0 0)] [(0, (.k (.agg #[(.int .i64 0), (.slice none 0 0), (.slice none 0 0), (.slice none 0 0), (.slice none 0 0)])))],none,[]⟩,⟨(some 18), .app 2 ty_api_Tree 5 104 (.t 14) (.t 17),none,[]⟩,⟨(some 19), .ia 5 (.t 18) (.t 16),none,[]⟩,⟨none, .store 5 (.t 19) (.t 15), none, [15]⟩,⟨none, .store 1 (.t 2) (.t 18),none,[]⟩]) (.reg [] [⟨(some 20), .load false 1 (.t 1),none,[]⟩,⟨(some 21), .fa 4 (.t 3),none,[]⟩,⟨(some 22), .load false 1 (.t 21),none,[]⟩,⟨(some 23), .ia 5 (.t 22) (.k (.int .i64 1)),none,[]⟩,⟨(some 24), .load true 5 (.t 23),none,[]⟩,⟨(some 25), .callv (.t 20) [(.t 24)] [3], none, [24]⟩]))))),
 [], [], false, []⟩

def i_ref04_Same_r : List Bool := [o_,o_,o_,o_,i_,o_,o_,o_,o_,o_,o_,o_,o_,o_,o_,o_,o_,o_,o_,o_,o_,o_,o_,o_,o_,o_,o_,o_,o_,o_,o_,o_,o_,o_,o_,o_,o_,o_,o_,o_,o_,o_,o_,o_,o_,o_,o_,o_,o_,o_,o_,o_,o_,o_,o_,o_,o_,o_,o_,o_,o_,o_,o_,o_,o_,o_,o_,o_]
def i_ref04_Same_j1 : List Bool := [o_,o_,i_,i_,o_,i_,o_,o_,o_,o_,o_,o_,o_,o_,o_,o_,o_,o_,o_,o_,o_,o_,o_,o_,o_,o_,o_,o_,o_,o_,o_,o_,o_,o_,o_,o_,o_,o_,o_,o_,o_,o_,o_,o_,o_,o_,o_,o_,o_,o_,o_,o_,o_,o_,o_,o_,o_,o_,o_,o_,o_,o_,o_,o_,o_,o_,o_,o_]
def i_ref04_Same_k0 : List Bool := [o_,o_,i_,i_,o_,i_,o_,o_,o_,o_,o_,o_,o_,o_,o_,o_,o_,o_,o_,o_,o_,o_,o_,o_,o_,o_,o_,o_,o_,o_,o_,o_,o_,o_,o_,o_,o_,o_,o_,o_,o_,o_,o_,o_,o_,o_,o_,o_,o_,o_,o_,o_,o_,o_,o_,o_,o_,o_,o_,o_,o_,o_,o_,o_,o_,o_,o_,o_]
def i_ref04_Same_j0 : List Bool := [o_,o_,o_,o_,o_,o_,o_,o_,o_,o_,o_,o_,o_,o_,o_,o_,o_,o_,o_,o_,o_,o_,o_,o_,o_,o_,o_,o_,o_,o_,o_,o_,o_,o_,o_,o_,o_,o_,o_,o_,o_,o_,o_,o_,o_,o_,o_,o_,o_,o_,o_,o_,o_,o_,o_,o_,o_,o_,o_,o_,o_,o_,o_,o_,o_,o_,o_,o_]
abbrev s_ref04_Same_R (t4 : AV) (h : Heap) : St := ⟨[u_,u_,u_,u_,t4, u_,u_,u_,u_,u_,u_,u_,u_,u_,u_,u_,u_,u_,u_,u_,u_,u_,u_,u_,u_,u_,u_,u_,u_,u_,u_,u_,u_,u_,u_,u_,u_,u_,u_,u_,u_,u_,u_,u_,u_,u_,u_,u_,u_,u_,u_,u_,u_,u_,u_,u_,u_,u_,u_,u_,u_,u_,u_,u_,u_,u_,u_,u_], h⟩
abbrev s_ref04_Same_K0 (t2 t3 t5 : AV) (h : Heap) : St := ⟨[u_,u_,t2, t3, u_,t5, u_,u_,u_,u_,u_,u_,u_,u_,u_,u_,u_,u_,u_,u_,u_,u_,u_,u_,u_,u_,u_,u_,u_,u_,u_,u_,u_,u_,u_,u_,u_,u_,u_,u_,u_,u_,u_,u_,u_,u_,u_,u_,u_,u_,u_,u_,u_,u_,u_,u_,u_,u_,u_,u_,u_,u_,u_,u_,u_,u_,u_,u_], h⟩
def i_ref04_Same_b0 : IR := (.seq (.seq (.reg [] [⟨(some 48), .mv (.t 5),none,[]⟩,⟨(some 49), .fa 4 (.t 2),none,[]⟩,⟨(some 50), .load false 1 (.t 49),none,[]⟩,⟨(some 51), .len false (.t 50),none,[]⟩,⟨(some 52), .bin .plain .lss (.t 48) (.t 51),none,[]⟩]) (.cond (.t 52) .skip (.exit 0 i_ref04_Same_j0))) (.seq (.block 1 i_ref04_Same_j1 (.seq (.reg [] [⟨(some 55), .fa 4 (.t 2),none,[]⟩,⟨(some 56), .load false 1 (.t 55),none,[]⟩,⟨(some 57), .mv (.t 5),none,[]⟩,⟨(some 58), .ia 5 (.t 56) (.t 57),none,[]⟩,⟨(some 59), .load true 5 (.t 58),none,[]⟩,⟨(some 60), .fa 4 (.t 3),none,[]⟩,⟨(some 61), .load false 1 (.t 60),none,[]⟩,⟨(some 62), .mv (.t 5),none,[]⟩,⟨(some 63), .ia 5 (.t 61) (.t 62),none,[]⟩,⟨(some 64), .load true 5 (.t 63),none,[]⟩,⟨(some 65), .qcall n_ref04_Same [(.t 59), (.t 64)] [],none,[]⟩,⟨(some 6), .mv (.t 65),none,[]⟩]) (.seq (.reg [] [⟨(some 66), .mv (.t 6),none,[]⟩,⟨(some 67), .un .not (.t 66),none,[]⟩]) (.cond (.t 67) (.seq (.reg [] [⟨(some 4), .mv (.k (.bool false)),none,[]⟩]) (.ret i_ref04_Same_r)) .skip)))) (.reg [] [⟨(some 53), .mv (.t 5),none,[]⟩,⟨(some 54), .bin .plain .add (.t 53) (.k (.int .i64 1)),none,[]⟩,⟨(some 5), .mv (.t 54),none,[]⟩])))

abbrev s_ref04_Same_J0 (h : Heap) : St := ⟨[u_,u_,u_,u_,u_,u_,u_,u_,u_,u_,u_,u_,u_,u_,u_,u_,u_,u_,u_,u_,u_,u_,u_,u_,u_,u_,u_,u_,u_,u_,u_,u_,u_,u_,u_,u_,u_,u_,u_,u_,u_,u_,u_,u_,u_,u_,u_,u_,u_,u_,u_,u_,u_,u_,u_,u_,u_,u_,u_,u_,u_,u_,u_,u_,u_,u_,u_,u_], h⟩
/-- heartwood/heartwoodref04.Same -/
def i_ref04_Same : Ev.Fn := ⟨2, 68, 2, (.seq (.reg [] [⟨(some 2), .box 0 5 (.t 0),none,[]⟩,⟨(some 3), .box 1 5 (.t 1),none,[]⟩,⟨(some 4), .mv (.k (.bool false)),none,[]⟩]) (.seq (.seq (.reg [] [⟨(some 7), .fa 0 (.t 2),none,[]⟩,⟨(some 8), .load false 1 (.t 7),none,[]⟩,⟨(some 9), .fa 0 (.t 3),none,[]⟩,⟨(some 10), .load false 1 (.t 9),none,[]⟩,⟨(some 11), .bin .plain .neq (.t 8) (.t 10),none,[]⟩,⟨(some 12), .mv (.t 11),none,[]⟩,⟨(some 13), .fa 1 (.t 2), (some (12, false)), []⟩,⟨(some 14), .load false 1 (.t 13), (some (12, false)), []⟩,⟨(some 15), .b2s (.t 14), (some (12, false)), []⟩,⟨(some 16), .fa 1 (.t 3), (some (12, false)), []⟩,⟨(some 17), .load false 1 (.t 16), (some (12, false)), []⟩,⟨(some 18), .b2s (.t 17), (some (12, false)), []⟩,⟨(some 19), .bin .plain .neq (.t 15) (.t 18), (some (12, false)), []⟩,⟨(some 20), .pick (.t 12) (.k (.bool true)) (.t 19),none,[]⟩,⟨(some 21), .mv (.t 20),none,[]⟩,⟨(some 22), .fa 2 (.t 2), (some (21, false)), []⟩,⟨(some 23), .load false 1 (.t 22), (some (21, false)), []⟩,⟨(some 24), .b2s (.t 23), (some (21, false)), []⟩,⟨(some 25), .fa 2 (.t 3), (some (21, false)), []⟩,⟨(some 26), .load false 1 (.t 25), (some (21, false)), []⟩,⟨(some 27), .b2s (.t 26), (some (21, false)), []⟩,⟨(some 28), .bin .plain .neq (.t 24) (.t 27), (some (21, false)), []⟩,⟨(some 29), .pick (.t 21) (.k (.bool true)) (.t 28),none,[]⟩,⟨(some 30), .mv (.t 29),none,[]⟩,⟨(some 31), .fa 3 (.t 2), (some (30, false)), []⟩,⟨(some 32), .load false 1 (.t 31), (some (30, false)), []⟩,⟨(some 33), .b2s (.t 32), (some (30, false)), []⟩,⟨(some 34), .fa 3 (.t 3), (some (30, false)), []⟩,⟨(some 35), .load false 1 (.t 34), (some (30, false)), []⟩,⟨(some 36), .b2s (.t 35), (some (30, false)), []⟩,⟨(some 37), .bin .plain .neq (.t 33) (.t 36), (some (30, false)), []⟩,⟨(some 38), .pick (.t 30) (.k (.bool true)) (.t 37),none,[]⟩,⟨(some 39), .mv (.t 38),none,[]⟩,⟨(some 40), .fa 4 (.t 2), (some (39, false)), []⟩,⟨(some 41), .load false 1 (.t 40), (some (39, false)), []⟩,⟨(some 42), .len false (.t 41), (some (39, false)), []⟩,⟨(some 43), .fa 4 (.t 3), (some (39, false)), []⟩,⟨(some 44), .load false 1 (.t 43), (some (39, false)), []⟩,⟨(some 45), .len false (.t 44), (some (39, false)), []⟩,⟨(some 46), .bin .plain .neq (.t 42) (.t 45), (some (39, false)), []⟩,⟨(some 47), .pick (.t 39) (.k (.bool true)) (.t 46),none,[]⟩]) (.cond (.t 47) (.seq (.reg [] [⟨(some 4), .mv (.k (.bool false)),none,[]⟩]) (.ret i_ref04_Same_r)) .skip)) (.seq (.seq (.reg [] [⟨(some 5), .mv (.k (.int .i64 0)),none,[]⟩]) (.block 0 i_ref04_Same_j0 (.loop i_ref04_Same_k0 i_ref04_Same_b0))) (.seq (.reg [] [⟨(some 4), .mv (.k (.bool true)),none,[]⟩]) (.ret i_ref04_Same_r))))),
 [.tmp 4], [], false, []⟩

def tab (f : Nat) : Option Ev.Fn := match f with
  | 6 => some i_law04_TreeStays
  | 12 => some i_law04_up
  | 14 => some i_tree_Digest
  | 24 => some i_tree_Check
  | 50 => some i_tree_deep
  | 72 => some i_tree_deep_1
  | 71 => some i_slices_ContainsFunc_sl_api_Tree_api_Tree
  | 85 => some i_slices_IndexFunc_sl_api_Tree_api_Tree
  | 51 => some i_tree_formed
  | 73 => some i_tree_formed_1
  | 40 => some i_tree_told
  | 61 => some i_digest_None
  | 60 => some i_digest_Of
  | 77 => some i_digest_width
  | 78 => some i_sha_Sum
  | 89 => some i_sha_Tail
  | 90 => some i_sha_Step
  | 95 => some i_sha_Words
  | 97 => some i_math_bits_RotateLeft32
  | 96 => some i_sha_Round
  | 62 => some i_slices_Clone_sl_byte_byte
  | 63 => some i_digest_Value
  | 64 => some i_digest_Pair
  | 80 => some i_coder_Bytes
  | 92 => some i_coder_Number
  | 79 => some i_slices_Concat_sl_byte_byte
  | 91 => some i_slices_Grow_sl_byte_byte
  | 65 => some i_tree_of
  | 66 => some i_digest_Node
  | 38 => some i_tree_Full
  | 59 => some i_tree_full
  | 76 => some i_tree_full_1
  | 13 => some i_law04_small
  | 39 => some i_ref04_Light
  | 23 => some i_ref04_Copy
  | 20 => some i_tree_List
  | 49 => some i_tree_List_1
  | 22 => some i_ref04_Same
  | _ => none
theorem t_law04_TreeStays : tab n_law04_TreeStays = some i_law04_TreeStays := rfl
theorem t_law04_up : tab n_law04_up = some i_law04_up := rfl
theorem t_tree_Digest : tab n_tree_Digest = some i_tree_Digest := rfl
theorem t_tree_Check : tab n_tree_Check = some i_tree_Check := rfl
theorem t_tree_deep : tab n_tree_deep = some i_tree_deep := rfl
theorem t_tree_deep_1 : tab n_tree_deep_1 = some i_tree_deep_1 := rfl
theorem t_slices_ContainsFunc_sl_api_Tree_api_Tree : tab n_slices_ContainsFunc_sl_api_Tree_api_Tree = some i_slices_ContainsFunc_sl_api_Tree_api_Tree := rfl
theorem t_slices_IndexFunc_sl_api_Tree_api_Tree : tab n_slices_IndexFunc_sl_api_Tree_api_Tree = some i_slices_IndexFunc_sl_api_Tree_api_Tree := rfl
theorem t_tree_formed : tab n_tree_formed = some i_tree_formed := rfl
theorem t_tree_formed_1 : tab n_tree_formed_1 = some i_tree_formed_1 := rfl
theorem t_tree_told : tab n_tree_told = some i_tree_told := rfl
theorem t_digest_None : tab n_digest_None = some i_digest_None := rfl
theorem t_digest_Of : tab n_digest_Of = some i_digest_Of := rfl
theorem t_digest_width : tab n_digest_width = some i_digest_width := rfl
theorem t_sha_Sum : tab n_sha_Sum = some i_sha_Sum := rfl
theorem t_sha_Tail : tab n_sha_Tail = some i_sha_Tail := rfl
theorem t_sha_Step : tab n_sha_Step = some i_sha_Step := rfl
theorem t_sha_Words : tab n_sha_Words = some i_sha_Words := rfl
theorem t_math_bits_RotateLeft32 : tab n_math_bits_RotateLeft32 = some i_math_bits_RotateLeft32 := rfl
theorem t_sha_Round : tab n_sha_Round = some i_sha_Round := rfl
theorem t_slices_Clone_sl_byte_byte : tab n_slices_Clone_sl_byte_byte = some i_slices_Clone_sl_byte_byte := rfl
theorem t_digest_Value : tab n_digest_Value = some i_digest_Value := rfl
theorem t_digest_Pair : tab n_digest_Pair = some i_digest_Pair := rfl
theorem t_coder_Bytes : tab n_coder_Bytes = some i_coder_Bytes := rfl
theorem t_coder_Number : tab n_coder_Number = some i_coder_Number := rfl
theorem t_slices_Concat_sl_byte_byte : tab n_slices_Concat_sl_byte_byte = some i_slices_Concat_sl_byte_byte := rfl
theorem t_slices_Grow_sl_byte_byte : tab n_slices_Grow_sl_byte_byte = some i_slices_Grow_sl_byte_byte := rfl
theorem t_tree_of : tab n_tree_of = some i_tree_of := rfl
theorem t_digest_Node : tab n_digest_Node = some i_digest_Node := rfl
theorem t_tree_Full : tab n_tree_Full = some i_tree_Full := rfl
theorem t_tree_full : tab n_tree_full = some i_tree_full := rfl
theorem t_tree_full_1 : tab n_tree_full_1 = some i_tree_full_1 := rfl
theorem t_law04_small : tab n_law04_small = some i_law04_small := rfl
theorem t_ref04_Light : tab n_ref04_Light = some i_ref04_Light := rfl
theorem t_ref04_Copy : tab n_ref04_Copy = some i_ref04_Copy := rfl
theorem t_tree_List : tab n_tree_List = some i_tree_List := rfl
theorem t_tree_List_1 : tab n_tree_List_1 = some i_tree_List_1 := rfl
theorem t_ref04_Same : tab n_ref04_Same = some i_ref04_Same := rfl
/-- The constants of the rounds, and the words at first. -/
def tabK : List Int := [1116352408, 1899447441, 3049323471, 3921009573, 961987163, 1508970993, 2453635748, 2870763221, 3624381080, 310598401, 607225278, 1426881987, 1925078388, 2162078206, 2614888103, 3248222580, 3835390401, 4022224774, 264347078, 604807628, 770255983, 1249150122, 1555081692, 1996064986, 2554220882, 2821834349, 2952996808, 3210313671, 3336571891, 3584528711, 113926993, 338241895, 666307205, 773529912, 1294757372, 1396182291, 1695183700, 1986661051, 2177026350, 2456956037, 2730485921, 2820302411, 3259730800, 3345764771, 3516065817, 3600352804, 4094571909, 275423344, 430227734, 506948616, 659060556, 883997877, 958139571, 1322822218, 1537002063, 1747873779, 1955562222, 2024104815, 2227730452, 2361852424, 2428436474, 2756734187, 3204031479, 3329325298]
def tabH : List Int := [1779033703, 3144134277, 1013904242, 2773480762, 1359893119, 2600822924, 528734635, 1541459225]
def gK : List C := tabK.map fun n => .sc (.int .u32 n)
def gH : List C := tabH.map fun n => .sc (.int .u32 n)
def G0 : Cf := ⟨fun g => if g = 0 then gH else if g = 1 then gK else [], false⟩
theorem G0_0 : G0.G 0 = gH := rfl
theorem G0_1 : G0.G 1 = gK := rfl
theorem gK_len : gK.length = 64 := rfl
theorem gH_len : gH.length = 8 := rfl
theorem gK_at {i : Nat} (h : i < 64) : (gK.drop i).take 1 = [.sc (.int .u32 (tabK.getD i 0))] := by
  have hl : tabK.length = 64 := rfl
  rw [gK, List.drop_eq_getElem_cons (by rw [List.length_map]; omega)]
  simp only [List.take_succ_cons, List.take_zero, List.getElem_map, List.getD, List.getElem?_eq_getElem (show i < tabK.length by omega), Option.getD_some]
theorem gH_take : gH.take 8 = gH := rfl
attribute [go_sem] G0_0 G0_1 gK_len gH_len gK_at gH_take
@[go_sem] theorem lt_law04_TreeStays : (n_law04_TreeStays < 1000000) = True := eq_true (by decide)
@[go_sem] theorem lt_law04_up : (n_law04_up < 1000000) = True := eq_true (by decide)
@[go_sem] theorem lt_tree_Digest : (n_tree_Digest < 1000000) = True := eq_true (by decide)
@[go_sem] theorem lt_tree_Check : (n_tree_Check < 1000000) = True := eq_true (by decide)
@[go_sem] theorem lt_tree_deep : (n_tree_deep < 1000000) = True := eq_true (by decide)
@[go_sem] theorem lt_tree_deep_1 : (n_tree_deep_1 < 1000000) = True := eq_true (by decide)
@[go_sem] theorem lt_slices_ContainsFunc_sl_api_Tree_api_Tree : (n_slices_ContainsFunc_sl_api_Tree_api_Tree < 1000000) = True := eq_true (by decide)
@[go_sem] theorem lt_slices_IndexFunc_sl_api_Tree_api_Tree : (n_slices_IndexFunc_sl_api_Tree_api_Tree < 1000000) = True := eq_true (by decide)
@[go_sem] theorem lt_tree_formed : (n_tree_formed < 1000000) = True := eq_true (by decide)
@[go_sem] theorem lt_tree_formed_1 : (n_tree_formed_1 < 1000000) = True := eq_true (by decide)
@[go_sem] theorem lt_tree_told : (n_tree_told < 1000000) = True := eq_true (by decide)
@[go_sem] theorem lt_digest_None : (n_digest_None < 1000000) = True := eq_true (by decide)
@[go_sem] theorem lt_digest_Of : (n_digest_Of < 1000000) = True := eq_true (by decide)
@[go_sem] theorem lt_digest_width : (n_digest_width < 1000000) = True := eq_true (by decide)
@[go_sem] theorem lt_sha_Sum : (n_sha_Sum < 1000000) = True := eq_true (by decide)
@[go_sem] theorem lt_sha_Tail : (n_sha_Tail < 1000000) = True := eq_true (by decide)
@[go_sem] theorem lt_sha_Step : (n_sha_Step < 1000000) = True := eq_true (by decide)
@[go_sem] theorem lt_sha_Words : (n_sha_Words < 1000000) = True := eq_true (by decide)
@[go_sem] theorem lt_math_bits_RotateLeft32 : (n_math_bits_RotateLeft32 < 1000000) = True := eq_true (by decide)
@[go_sem] theorem lt_sha_Round : (n_sha_Round < 1000000) = True := eq_true (by decide)
@[go_sem] theorem lt_slices_Clone_sl_byte_byte : (n_slices_Clone_sl_byte_byte < 1000000) = True := eq_true (by decide)
@[go_sem] theorem lt_digest_Value : (n_digest_Value < 1000000) = True := eq_true (by decide)
@[go_sem] theorem lt_digest_Pair : (n_digest_Pair < 1000000) = True := eq_true (by decide)
@[go_sem] theorem lt_coder_Bytes : (n_coder_Bytes < 1000000) = True := eq_true (by decide)
@[go_sem] theorem lt_coder_Number : (n_coder_Number < 1000000) = True := eq_true (by decide)
@[go_sem] theorem lt_slices_Concat_sl_byte_byte : (n_slices_Concat_sl_byte_byte < 1000000) = True := eq_true (by decide)
@[go_sem] theorem lt_slices_Grow_sl_byte_byte : (n_slices_Grow_sl_byte_byte < 1000000) = True := eq_true (by decide)
@[go_sem] theorem lt_tree_of : (n_tree_of < 1000000) = True := eq_true (by decide)
@[go_sem] theorem lt_digest_Node : (n_digest_Node < 1000000) = True := eq_true (by decide)
@[go_sem] theorem lt_tree_Full : (n_tree_Full < 1000000) = True := eq_true (by decide)
@[go_sem] theorem lt_tree_full : (n_tree_full < 1000000) = True := eq_true (by decide)
@[go_sem] theorem lt_tree_full_1 : (n_tree_full_1 < 1000000) = True := eq_true (by decide)
@[go_sem] theorem lt_law04_small : (n_law04_small < 1000000) = True := eq_true (by decide)
@[go_sem] theorem lt_ref04_Light : (n_ref04_Light < 1000000) = True := eq_true (by decide)
@[go_sem] theorem lt_ref04_Copy : (n_ref04_Copy < 1000000) = True := eq_true (by decide)
@[go_sem] theorem lt_tree_List : (n_tree_List < 1000000) = True := eq_true (by decide)
@[go_sem] theorem lt_tree_List_1 : (n_tree_List_1 < 1000000) = True := eq_true (by decide)
@[go_sem] theorem lt_ref04_Same : (n_ref04_Same < 1000000) = True := eq_true (by decide)
theorem ca_law04_TreeStays (l : List AV) : cArgs tab n_law04_TreeStays l = canonA [] l := rfl
attribute [go_sem] t_law04_TreeStays ca_law04_TreeStays
theorem ca_law04_up (l : List AV) : cArgs tab n_law04_up l = canonA [] l := rfl
attribute [go_sem] t_law04_up ca_law04_up
theorem ca_tree_Digest (l : List AV) : cArgs tab n_tree_Digest l = canonA [] l := rfl
attribute [go_sem] t_tree_Digest ca_tree_Digest
theorem ca_tree_Check (l : List AV) : cArgs tab n_tree_Check l = canonA [] l := rfl
attribute [go_sem] t_tree_Check ca_tree_Check
theorem ca_tree_deep (l : List AV) : cArgs tab n_tree_deep l = canonA [] l := rfl
attribute [go_sem] t_tree_deep ca_tree_deep
theorem ca_tree_deep_1 (l : List AV) : cArgs tab n_tree_deep_1 l = canonA [] l := rfl
attribute [go_sem] t_tree_deep_1 ca_tree_deep_1
theorem ca_slices_ContainsFunc_sl_api_Tree_api_Tree (l : List AV) : cArgs tab n_slices_ContainsFunc_sl_api_Tree_api_Tree l = canonA [] l := rfl
attribute [go_sem] t_slices_ContainsFunc_sl_api_Tree_api_Tree ca_slices_ContainsFunc_sl_api_Tree_api_Tree
theorem ca_slices_IndexFunc_sl_api_Tree_api_Tree (l : List AV) : cArgs tab n_slices_IndexFunc_sl_api_Tree_api_Tree l = canonA [] l := rfl
attribute [go_sem] t_slices_IndexFunc_sl_api_Tree_api_Tree ca_slices_IndexFunc_sl_api_Tree_api_Tree
theorem ca_tree_formed (l : List AV) : cArgs tab n_tree_formed l = canonA [] l := rfl
attribute [go_sem] t_tree_formed ca_tree_formed
theorem ca_tree_formed_1 (l : List AV) : cArgs tab n_tree_formed_1 l = canonA [] l := rfl
attribute [go_sem] t_tree_formed_1 ca_tree_formed_1
theorem ca_tree_told (l : List AV) : cArgs tab n_tree_told l = canonA [] l := rfl
attribute [go_sem] t_tree_told ca_tree_told
theorem ca_digest_None (l : List AV) : cArgs tab n_digest_None l = canonA [] l := rfl
attribute [go_sem] t_digest_None ca_digest_None
theorem ca_digest_Of (l : List AV) : cArgs tab n_digest_Of l = canonA [] l := rfl
attribute [go_sem] t_digest_Of ca_digest_Of
theorem ca_digest_width (l : List AV) : cArgs tab n_digest_width l = canonA [] l := rfl
attribute [go_sem] t_digest_width ca_digest_width
theorem ca_sha_Sum (l : List AV) : cArgs tab n_sha_Sum l = canonA [] l := rfl
attribute [go_sem] t_sha_Sum ca_sha_Sum
theorem ca_sha_Tail (l : List AV) : cArgs tab n_sha_Tail l = canonA [] l := rfl
attribute [go_sem] t_sha_Tail ca_sha_Tail
theorem ca_sha_Step (l : List AV) : cArgs tab n_sha_Step l = canonA [] l := rfl
attribute [go_sem] t_sha_Step ca_sha_Step
theorem ca_sha_Words (l : List AV) : cArgs tab n_sha_Words l = canonA [] l := rfl
attribute [go_sem] t_sha_Words ca_sha_Words
theorem ca_math_bits_RotateLeft32 (l : List AV) : cArgs tab n_math_bits_RotateLeft32 l = canonA [] l := rfl
attribute [go_sem] t_math_bits_RotateLeft32 ca_math_bits_RotateLeft32
theorem ca_sha_Round (l : List AV) : cArgs tab n_sha_Round l = canonA [] l := rfl
attribute [go_sem] t_sha_Round ca_sha_Round
theorem ca_slices_Clone_sl_byte_byte (l : List AV) : cArgs tab n_slices_Clone_sl_byte_byte l = canonA [] l := rfl
attribute [go_sem] t_slices_Clone_sl_byte_byte ca_slices_Clone_sl_byte_byte
theorem ca_digest_Value (l : List AV) : cArgs tab n_digest_Value l = canonA [] l := rfl
attribute [go_sem] t_digest_Value ca_digest_Value
theorem ca_digest_Pair (l : List AV) : cArgs tab n_digest_Pair l = canonA [] l := rfl
attribute [go_sem] t_digest_Pair ca_digest_Pair
theorem ca_coder_Bytes (l : List AV) : cArgs tab n_coder_Bytes l = canonA [] l := rfl
attribute [go_sem] t_coder_Bytes ca_coder_Bytes
theorem ca_coder_Number (l : List AV) : cArgs tab n_coder_Number l = canonA [] l := rfl
attribute [go_sem] t_coder_Number ca_coder_Number
theorem ca_slices_Concat_sl_byte_byte (l : List AV) : cArgs tab n_slices_Concat_sl_byte_byte l = canonA [] l := rfl
attribute [go_sem] t_slices_Concat_sl_byte_byte ca_slices_Concat_sl_byte_byte
theorem ca_slices_Grow_sl_byte_byte (l : List AV) : cArgs tab n_slices_Grow_sl_byte_byte l = canonA [i_,o_] l := rfl
attribute [go_sem] t_slices_Grow_sl_byte_byte ca_slices_Grow_sl_byte_byte
theorem ca_tree_of (l : List AV) : cArgs tab n_tree_of l = canonA [] l := rfl
attribute [go_sem] t_tree_of ca_tree_of
theorem ca_digest_Node (l : List AV) : cArgs tab n_digest_Node l = canonA [] l := rfl
attribute [go_sem] t_digest_Node ca_digest_Node
theorem ca_tree_Full (l : List AV) : cArgs tab n_tree_Full l = canonA [] l := rfl
attribute [go_sem] t_tree_Full ca_tree_Full
theorem ca_tree_full (l : List AV) : cArgs tab n_tree_full l = canonA [] l := rfl
attribute [go_sem] t_tree_full ca_tree_full
theorem ca_tree_full_1 (l : List AV) : cArgs tab n_tree_full_1 l = canonA [] l := rfl
attribute [go_sem] t_tree_full_1 ca_tree_full_1
theorem ca_law04_small (l : List AV) : cArgs tab n_law04_small l = canonA [] l := rfl
attribute [go_sem] t_law04_small ca_law04_small
theorem ca_ref04_Light (l : List AV) : cArgs tab n_ref04_Light l = canonA [] l := rfl
attribute [go_sem] t_ref04_Light ca_ref04_Light
theorem ca_ref04_Copy (l : List AV) : cArgs tab n_ref04_Copy l = canonA [] l := rfl
attribute [go_sem] t_ref04_Copy ca_ref04_Copy
theorem ca_tree_List (l : List AV) : cArgs tab n_tree_List l = canonA [] l := rfl
attribute [go_sem] t_tree_List ca_tree_List
theorem ca_tree_List_1 (l : List AV) : cArgs tab n_tree_List_1 l = canonA [] l := rfl
attribute [go_sem] t_tree_List_1 ca_tree_List_1
theorem ca_ref04_Same (l : List AV) : cArgs tab n_ref04_Same l = canonA [] l := rfl
attribute [go_sem] t_ref04_Same ca_ref04_Same
@[go_sem] theorem kt_law04_TreeStays_r (l : List AV) : keepT i_law04_TreeStays_r l = keepT [o_,o_,i_,o_,o_,o_,o_,o_,o_,o_,o_,o_,o_,o_,o_,o_,o_,o_,o_,o_,o_,o_,o_,o_,o_,o_,o_,o_,o_,o_,o_,o_,o_,o_,o_,o_,o_,o_,o_,o_,o_,o_,o_,o_,o_,o_,o_,o_,o_,o_,o_,o_,o_,o_,o_,o_,o_,o_,o_,o_,o_,o_,o_,o_,o_,o_,o_,o_,o_,o_,o_,o_,o_,o_,o_,o_] l := rfl
@[go_sem] theorem kt_law04_TreeStays_j1 (l : List AV) : keepT i_law04_TreeStays_j1 l = keepT [o_,i_,o_,i_,o_,i_,i_,i_,i_,i_,o_,o_,o_,o_,o_,o_,o_,o_,o_,o_,o_,o_,o_,o_,o_,o_,o_,o_,o_,o_,o_,o_,o_,o_,o_,o_,o_,o_,o_,o_,o_,o_,o_,o_,o_,o_,o_,o_,o_,o_,o_,o_,o_,o_,o_,o_,o_,o_,o_,o_,o_,o_,o_,o_,o_,o_,o_,o_,o_,o_,o_,o_,o_,o_,o_,o_] l := rfl
@[go_sem] theorem kt_law04_TreeStays_k0 (l : List AV) : keepT i_law04_TreeStays_k0 l = keepT [o_,i_,o_,i_,o_,i_,i_,i_,i_,i_,o_,o_,o_,o_,o_,o_,o_,o_,o_,o_,o_,o_,o_,o_,o_,o_,o_,o_,o_,o_,o_,o_,o_,o_,o_,o_,o_,o_,o_,o_,o_,o_,o_,o_,o_,o_,o_,o_,o_,o_,o_,o_,o_,o_,o_,o_,o_,o_,o_,o_,o_,o_,o_,o_,o_,o_,o_,o_,o_,o_,o_,o_,o_,o_,o_,o_] l := rfl
@[go_sem] theorem kt_law04_TreeStays_j0 (l : List AV) : keepT i_law04_TreeStays_j0 l = keepT [o_,i_,o_,i_,o_,i_,i_,i_,i_,o_,o_,o_,o_,o_,o_,o_,o_,o_,o_,o_,o_,o_,o_,o_,o_,o_,o_,o_,o_,o_,o_,o_,o_,o_,o_,o_,o_,o_,o_,o_,o_,o_,o_,o_,o_,o_,o_,o_,o_,o_,o_,o_,o_,o_,o_,o_,o_,o_,o_,o_,o_,o_,o_,o_,o_,o_,o_,o_,o_,o_,o_,o_,o_,o_,o_,o_] l := rfl
@[go_sem] theorem kt_law04_up_r (l : List AV) : keepT i_law04_up_r l = keepT [i_,o_,o_,o_,o_,o_,o_,o_,o_,o_,o_,o_,o_,o_,o_,o_,o_,o_,o_,o_,o_,o_,o_,o_,o_,o_,o_,o_] l := rfl
@[go_sem] theorem kt_tree_Digest_r (l : List AV) : keepT i_tree_Digest_r l = keepT [o_,o_,o_,o_,i_,i_,o_,o_,o_,o_,o_,o_,o_,o_,o_,o_,o_,o_,o_,o_,o_,o_,o_,o_] l := rfl
@[go_sem] theorem kt_tree_Check_r (l : List AV) : keepT i_tree_Check_r l = keepT [o_,o_,i_,o_,o_,o_,o_,o_,o_,o_,o_,o_] l := rfl
@[go_sem] theorem kt_tree_Check_j0 (l : List AV) : keepT i_tree_Check_j0 l = keepT [o_,o_,o_,o_,o_,o_,o_,o_,o_,o_,o_,o_] l := rfl
@[go_sem] theorem kt_tree_deep_r (l : List AV) : keepT i_tree_deep_r l = keepT [o_,o_,o_,o_,i_,o_,o_,o_,o_,o_,o_,o_,o_,o_,o_,o_,o_,o_,o_,o_,o_,o_,o_,o_,o_,o_,o_,o_,o_] l := rfl
@[go_sem] theorem kt_tree_deep_1_r (l : List AV) : keepT i_tree_deep_1_r l = keepT [o_,o_,o_,i_,o_,o_,o_,o_] l := rfl
@[go_sem] theorem kt_slices_ContainsFunc_sl_api_Tree_api_Tree_r (l : List AV) : keepT i_slices_ContainsFunc_sl_api_Tree_api_Tree_r l = keepT [o_,o_,o_,o_,i_,o_,o_,o_,o_] l := rfl
@[go_sem] theorem kt_slices_IndexFunc_sl_api_Tree_api_Tree_r (l : List AV) : keepT i_slices_IndexFunc_sl_api_Tree_api_Tree_r l = keepT [o_,o_,o_,o_,i_,o_,o_,o_,o_,o_,o_,o_,o_,o_,o_,o_,o_,o_,o_] l := rfl
@[go_sem] theorem kt_slices_IndexFunc_sl_api_Tree_api_Tree_j1 (l : List AV) : keepT i_slices_IndexFunc_sl_api_Tree_api_Tree_j1 l = keepT [i_,i_,o_,o_,o_,o_,o_,i_,i_,o_,o_,o_,o_,o_,o_,o_,o_,o_,o_] l := rfl
@[go_sem] theorem kt_slices_IndexFunc_sl_api_Tree_api_Tree_k0 (l : List AV) : keepT i_slices_IndexFunc_sl_api_Tree_api_Tree_k0 l = keepT [i_,i_,o_,o_,o_,o_,o_,i_,i_,o_,o_,o_,o_,o_,o_,o_,o_,o_,o_] l := rfl
@[go_sem] theorem kt_slices_IndexFunc_sl_api_Tree_api_Tree_j0 (l : List AV) : keepT i_slices_IndexFunc_sl_api_Tree_api_Tree_j0 l = keepT [o_,o_,o_,o_,o_,o_,o_,o_,o_,o_,o_,o_,o_,o_,o_,o_,o_,o_,o_] l := rfl
@[go_sem] theorem kt_tree_formed_r (l : List AV) : keepT i_tree_formed_r l = keepT [o_,o_,i_,o_,o_,o_,o_,o_,o_,o_,o_,o_,o_,o_,o_,o_,o_,o_,o_,o_,o_,o_,o_,o_,o_,o_,o_,o_,o_,o_,o_,o_,o_,o_,o_,o_,o_,o_,o_,o_,o_,o_,o_,o_,o_,o_,o_,o_,o_,o_,o_,o_,o_,o_,o_,o_,o_,o_,o_,o_,o_,o_,o_,o_,o_,o_,o_,o_,o_,o_,o_,o_,o_,o_,o_,o_,o_,o_,o_,o_,o_,o_,o_,o_,o_,o_,o_] l := rfl
@[go_sem] theorem kt_tree_formed_j0 (l : List AV) : keepT i_tree_formed_j0 l = keepT [o_,i_,o_,i_,o_,o_,o_,o_,o_,o_,o_,o_,o_,o_,o_,o_,o_,o_,o_,o_,o_,o_,o_,o_,o_,o_,o_,o_,o_,o_,o_,o_,o_,o_,o_,o_,o_,o_,o_,o_,o_,o_,o_,o_,o_,o_,o_,o_,o_,o_,o_,o_,o_,o_,o_,o_,o_,o_,o_,o_,o_,o_,o_,o_,o_,o_,o_,o_,o_,o_,o_,o_,o_,o_,o_,o_,o_,o_,o_,o_,o_,o_,o_,o_,o_,o_,o_] l := rfl
@[go_sem] theorem kt_tree_formed_1_r (l : List AV) : keepT i_tree_formed_1_r l = keepT [o_,o_,i_,o_,o_,o_] l := rfl
@[go_sem] theorem kt_tree_told_r (l : List AV) : keepT i_tree_told_r l = keepT [o_,o_,o_,o_,i_,i_,o_,o_,o_,o_,o_,o_,o_,o_,o_,o_,o_,o_,o_,o_,o_,o_,o_,o_,o_,o_,o_,o_,o_,o_,o_,o_,o_,o_,o_,o_,o_,o_,o_,o_,o_,o_,o_,o_,o_,o_,o_,o_,o_,o_,o_,o_,o_,o_,o_,o_,o_,o_,o_,o_,o_,o_,o_,o_,o_,o_,o_,o_,o_,o_,o_,o_,o_,o_,o_,o_,o_,o_,o_,o_,o_,o_,o_,o_,o_,o_,o_,o_,o_,o_,o_,o_,o_,o_,o_,o_,o_,o_,o_,o_,o_,o_,o_,o_,o_] l := rfl
@[go_sem] theorem kt_tree_told_j0 (l : List AV) : keepT i_tree_told_j0 l = keepT [i_,o_,o_,i_,o_,o_,o_,o_,o_,o_,o_,o_,o_,o_,o_,o_,o_,o_,o_,o_,o_,o_,o_,o_,o_,o_,o_,o_,o_,o_,o_,o_,o_,o_,o_,o_,o_,o_,o_,o_,o_,o_,o_,o_,o_,o_,o_,o_,o_,o_,o_,o_,o_,o_,o_,o_,o_,o_,o_,o_,o_,o_,o_,o_,o_,o_,o_,o_,o_,o_,o_,o_,o_,o_,o_,o_,o_,o_,o_,o_,o_,o_,o_,o_,o_,o_,o_,o_,o_,o_,o_,o_,o_,o_,o_,o_,o_,o_,o_,o_,o_,o_,o_,o_,o_] l := rfl
@[go_sem] theorem kt_digest_None_r (l : List AV) : keepT i_digest_None_r l = keepT [i_,o_] l := rfl
@[go_sem] theorem kt_digest_Of_r (l : List AV) : keepT i_digest_Of_r l = keepT [o_,o_,o_,o_,i_,i_,o_,o_,o_,o_,o_,o_,o_,o_,o_] l := rfl
@[go_sem] theorem kt_digest_width_r (l : List AV) : keepT i_digest_width_r l = keepT [o_,o_,i_,o_,o_,o_,o_,o_,o_] l := rfl
@[go_sem] theorem kt_sha_Sum_r (l : List AV) : keepT i_sha_Sum_r l = keepT [o_,o_,i_,o_,o_,o_,o_,o_,o_,o_,o_,o_,o_,o_,o_,o_,o_,o_,o_,o_,o_,o_,o_,o_,o_,o_,o_,o_,o_,o_,o_,o_,o_,o_,o_,o_,o_,o_,o_,o_,o_,o_,o_,o_,o_,o_,o_,o_,o_,o_,o_,o_,o_,o_,o_,o_,o_,o_,o_,o_,o_,o_,o_,o_,o_,o_,o_,o_,o_,o_,o_,o_,o_,o_,o_,o_] l := rfl
@[go_sem] theorem kt_sha_Sum_j3 (l : List AV) : keepT i_sha_Sum_j3 l = keepT [o_,o_,o_,o_,o_,o_,o_,i_,o_,i_,o_,o_,o_,o_,o_,o_,o_,o_,o_,o_,o_,o_,o_,o_,o_,o_,o_,o_,o_,o_,o_,o_,o_,o_,o_,o_,o_,i_,i_,o_,o_,o_,o_,o_,o_,o_,o_,o_,o_,o_,o_,o_,o_,o_,o_,o_,o_,o_,o_,o_,o_,o_,o_,o_,o_,o_,o_,o_,o_,o_,o_,o_,o_,o_,o_,o_] l := rfl
@[go_sem] theorem kt_sha_Sum_k1 (l : List AV) : keepT i_sha_Sum_k1 l = keepT [o_,o_,o_,o_,o_,o_,o_,i_,o_,i_,o_,o_,o_,o_,o_,o_,o_,o_,o_,o_,o_,o_,o_,o_,o_,o_,o_,o_,o_,o_,o_,o_,o_,o_,o_,o_,o_,i_,i_,o_,o_,o_,o_,o_,o_,o_,o_,o_,o_,o_,o_,o_,o_,o_,o_,o_,o_,o_,o_,o_,o_,o_,o_,o_,o_,o_,o_,o_,o_,o_,o_,o_,o_,o_,o_,o_] l := rfl
@[go_sem] theorem kt_sha_Sum_j2 (l : List AV) : keepT i_sha_Sum_j2 l = keepT [o_,o_,o_,o_,o_,o_,o_,i_,o_,o_,o_,o_,o_,o_,o_,o_,o_,o_,o_,o_,o_,o_,o_,o_,o_,o_,o_,o_,o_,o_,o_,o_,o_,o_,o_,o_,o_,i_,i_,o_,o_,o_,o_,o_,o_,o_,o_,o_,o_,o_,o_,o_,o_,o_,o_,o_,o_,o_,o_,o_,o_,o_,o_,o_,o_,o_,o_,o_,o_,o_,o_,o_,o_,o_,o_,o_] l := rfl
@[go_sem] theorem kt_sha_Sum_j1 (l : List AV) : keepT i_sha_Sum_j1 l = keepT [o_,o_,o_,o_,o_,o_,o_,i_,o_,o_,o_,o_,o_,o_,o_,o_,o_,o_,o_,o_,o_,o_,o_,o_,o_,o_,o_,o_,o_,o_,o_,o_,o_,o_,o_,o_,o_,i_,i_,o_,o_,o_,o_,o_,o_,o_,o_,o_,o_,o_,o_,o_,o_,o_,o_,o_,o_,o_,o_,o_,o_,o_,o_,o_,o_,o_,o_,o_,o_,o_,o_,o_,o_,o_,o_,o_] l := rfl
@[go_sem] theorem kt_sha_Sum_k0 (l : List AV) : keepT i_sha_Sum_k0 l = keepT [o_,o_,o_,o_,o_,o_,o_,i_,o_,o_,o_,o_,o_,o_,o_,o_,o_,o_,o_,o_,o_,o_,o_,o_,o_,o_,o_,o_,o_,o_,o_,o_,o_,o_,o_,o_,o_,i_,i_,o_,o_,o_,o_,o_,o_,o_,o_,o_,o_,o_,o_,o_,o_,o_,o_,o_,o_,o_,o_,o_,o_,o_,o_,o_,o_,o_,o_,o_,o_,o_,o_,o_,o_,o_,o_,o_] l := rfl
@[go_sem] theorem kt_sha_Sum_j0 (l : List AV) : keepT i_sha_Sum_j0 l = keepT [o_,o_,o_,o_,o_,o_,o_,i_,o_,o_,o_,o_,o_,o_,o_,o_,o_,o_,o_,o_,o_,o_,o_,o_,o_,o_,o_,o_,o_,o_,o_,o_,o_,o_,o_,o_,o_,o_,o_,o_,o_,o_,o_,o_,o_,o_,o_,o_,o_,o_,o_,o_,o_,o_,o_,o_,o_,o_,o_,o_,o_,o_,o_,o_,o_,o_,o_,o_,o_,o_,o_,o_,o_,o_,o_,o_] l := rfl
@[go_sem] theorem kt_sha_Sum_j5 (l : List AV) : keepT i_sha_Sum_j5 l = keepT [o_,o_,o_,o_,o_,o_,o_,o_,o_,o_,i_,o_,o_,o_,o_,o_,o_,o_,o_,o_,o_,o_,o_,o_,o_,o_,o_,o_,o_,o_,o_,o_,o_,o_,o_,o_,o_,o_,o_,o_,o_,o_,o_,o_,o_,o_,o_,o_,o_,o_,o_,o_,o_,o_,o_,o_,i_,i_,o_,o_,o_,o_,o_,o_,o_,o_,o_,o_,o_,o_,o_,o_,o_,o_,o_,o_] l := rfl
@[go_sem] theorem kt_sha_Sum_k2 (l : List AV) : keepT i_sha_Sum_k2 l = keepT [o_,o_,o_,o_,o_,o_,o_,o_,o_,o_,i_,o_,o_,o_,o_,o_,o_,o_,o_,o_,o_,o_,o_,o_,o_,o_,o_,o_,o_,o_,o_,o_,o_,o_,o_,o_,o_,o_,o_,o_,o_,o_,o_,o_,o_,o_,o_,o_,o_,o_,o_,o_,o_,o_,o_,o_,i_,i_,o_,o_,o_,o_,o_,o_,o_,o_,o_,o_,o_,o_,o_,o_,o_,o_,o_,o_] l := rfl
@[go_sem] theorem kt_sha_Sum_j4 (l : List AV) : keepT i_sha_Sum_j4 l = keepT [o_,o_,o_,o_,o_,o_,o_,o_,o_,o_,i_,o_,o_,o_,o_,o_,o_,o_,o_,o_,o_,o_,o_,o_,o_,o_,o_,o_,o_,o_,o_,o_,o_,o_,o_,o_,o_,o_,o_,o_,o_,o_,o_,o_,o_,o_,o_,o_,o_,o_,o_,o_,o_,o_,o_,o_,o_,o_,o_,o_,o_,o_,o_,o_,o_,o_,o_,o_,o_,o_,o_,o_,o_,o_,o_,o_] l := rfl
@[go_sem] theorem kt_sha_Tail_r (l : List AV) : keepT i_sha_Tail_r l = keepT [o_,o_,i_,i_,o_,o_,o_,o_,o_,o_,o_,o_,o_,o_,o_,o_,o_,o_,o_,o_,o_,o_,o_,o_,o_,o_,o_,o_,o_,o_,o_,o_,o_,o_,o_,o_,o_] l := rfl
@[go_sem] theorem kt_sha_Tail_j1 (l : List AV) : keepT i_sha_Tail_j1 l = keepT [i_,o_,o_,o_,i_,o_,o_,o_,o_,o_,o_,o_,o_,o_,o_,o_,o_,o_,o_,o_,o_,o_,o_,o_,o_,o_,o_,o_,o_,o_,o_,o_,o_,o_,o_,o_,o_] l := rfl
@[go_sem] theorem kt_sha_Tail_k0 (l : List AV) : keepT i_sha_Tail_k0 l = keepT [i_,o_,o_,o_,i_,o_,o_,o_,o_,o_,o_,o_,o_,o_,o_,o_,o_,o_,o_,o_,o_,o_,o_,o_,o_,o_,o_,o_,o_,o_,o_,o_,o_,o_,o_,o_,o_] l := rfl
@[go_sem] theorem kt_sha_Tail_j0 (l : List AV) : keepT i_sha_Tail_j0 l = keepT [i_,o_,o_,o_,i_,o_,o_,o_,o_,o_,o_,o_,o_,o_,o_,o_,o_,o_,o_,o_,o_,o_,o_,o_,o_,o_,o_,o_,o_,o_,o_,o_,o_,o_,o_,o_,o_] l := rfl
@[go_sem] theorem kt_sha_Tail_j3 (l : List AV) : keepT i_sha_Tail_j3 l = keepT [i_,o_,o_,o_,i_,i_,o_,o_,o_,o_,o_,o_,o_,o_,o_,o_,o_,o_,o_,o_,o_,o_,o_,o_,o_,o_,o_,o_,o_,o_,o_,o_,o_,o_,o_,o_,o_] l := rfl
@[go_sem] theorem kt_sha_Tail_k1 (l : List AV) : keepT i_sha_Tail_k1 l = keepT [i_,o_,o_,o_,i_,i_,o_,o_,o_,o_,o_,o_,o_,o_,o_,o_,o_,o_,o_,o_,o_,o_,o_,o_,o_,o_,o_,o_,o_,o_,o_,o_,o_,o_,o_,o_,o_] l := rfl
@[go_sem] theorem kt_sha_Tail_j2 (l : List AV) : keepT i_sha_Tail_j2 l = keepT [o_,o_,o_,o_,i_,o_,o_,o_,o_,o_,o_,o_,o_,o_,o_,o_,o_,o_,o_,o_,o_,o_,o_,o_,o_,o_,o_,o_,o_,o_,o_,o_,o_,o_,o_,o_,o_] l := rfl
@[go_sem] theorem kt_sha_Step_r (l : List AV) : keepT i_sha_Step_r l = keepT [o_,o_,o_,o_,i_,i_,o_,o_,o_,o_,o_,o_,o_,o_,o_,o_,o_,o_,o_,o_,o_,o_,o_,o_,o_,o_,o_,o_,o_,o_,o_,o_,o_,o_,o_,o_,o_,o_,o_,o_,o_,o_,o_,o_,o_,o_,o_,o_,o_] l := rfl
@[go_sem] theorem kt_sha_Step_j1 (l : List AV) : keepT i_sha_Step_j1 l = keepT [o_,o_,i_,o_,i_,o_,o_,o_,i_,o_,o_,o_,o_,o_,o_,o_,o_,o_,o_,o_,o_,o_,i_,i_,i_,o_,o_,o_,o_,o_,o_,o_,o_,o_,o_,o_,o_,o_,o_,o_,o_,o_,o_,o_,o_,o_,o_,o_,o_] l := rfl
@[go_sem] theorem kt_sha_Step_k0 (l : List AV) : keepT i_sha_Step_k0 l = keepT [o_,o_,i_,o_,i_,o_,o_,o_,i_,o_,o_,o_,o_,o_,o_,o_,o_,o_,o_,o_,o_,o_,i_,i_,i_,o_,o_,o_,o_,o_,o_,o_,o_,o_,o_,o_,o_,o_,o_,o_,o_,o_,o_,o_,o_,o_,o_,o_,o_] l := rfl
@[go_sem] theorem kt_sha_Step_j0 (l : List AV) : keepT i_sha_Step_j0 l = keepT [o_,o_,i_,o_,i_,o_,o_,o_,i_,o_,o_,o_,o_,o_,o_,o_,o_,o_,o_,o_,o_,o_,o_,o_,o_,o_,o_,o_,o_,o_,o_,o_,o_,o_,o_,o_,o_,o_,o_,o_,o_,o_,o_,o_,o_,o_,o_,o_,o_] l := rfl
@[go_sem] theorem kt_sha_Step_j3 (l : List AV) : keepT i_sha_Step_j3 l = keepT [o_,o_,i_,o_,i_,o_,o_,o_,i_,o_,o_,o_,o_,o_,o_,o_,o_,o_,o_,o_,o_,o_,o_,o_,o_,o_,o_,o_,o_,o_,o_,o_,o_,o_,o_,o_,i_,o_,o_,o_,o_,o_,o_,o_,o_,o_,o_,o_,o_] l := rfl
@[go_sem] theorem kt_sha_Step_k1 (l : List AV) : keepT i_sha_Step_k1 l = keepT [o_,o_,i_,o_,i_,o_,o_,o_,i_,o_,o_,o_,o_,o_,o_,o_,o_,o_,o_,o_,o_,o_,o_,o_,o_,o_,o_,o_,o_,o_,o_,o_,o_,o_,o_,o_,i_,o_,o_,o_,o_,o_,o_,o_,o_,o_,o_,o_,o_] l := rfl
@[go_sem] theorem kt_sha_Step_j2 (l : List AV) : keepT i_sha_Step_j2 l = keepT [o_,o_,i_,o_,i_,o_,o_,o_,o_,o_,o_,o_,o_,o_,o_,o_,o_,o_,o_,o_,o_,o_,o_,o_,o_,o_,o_,o_,o_,o_,o_,o_,o_,o_,o_,o_,o_,o_,o_,o_,o_,o_,o_,o_,o_,o_,o_,o_,o_] l := rfl
@[go_sem] theorem kt_sha_Words_r (l : List AV) : keepT i_sha_Words_r l = keepT [o_,o_,i_,i_,o_,o_,o_,o_,o_,o_,o_,o_,o_,o_,o_,o_,o_,o_,o_,o_,o_,o_,o_,o_,o_,o_,o_,o_,o_,o_,o_,o_,o_,o_,o_,o_,o_,o_,o_,o_,o_,o_,o_,o_,o_,o_,o_,o_,o_,o_,o_,o_,o_,o_,o_,o_,o_,o_,o_,o_,o_,o_,o_,o_,o_,o_,o_,o_,o_,o_,o_,o_,o_,o_,o_,o_,o_,o_,o_,o_,o_,o_,o_,o_,o_,o_,o_] l := rfl
@[go_sem] theorem kt_sha_Words_j1 (l : List AV) : keepT i_sha_Words_j1 l = keepT [o_,o_,o_,o_,i_,o_,o_,o_,o_,o_,o_,o_,o_,o_,o_,o_,o_,i_,i_,i_,o_,o_,o_,o_,o_,o_,o_,o_,o_,o_,o_,o_,o_,o_,o_,o_,o_,o_,o_,o_,o_,o_,o_,o_,o_,o_,o_,o_,o_,o_,o_,o_,o_,o_,o_,o_,o_,o_,o_,o_,o_,o_,o_,o_,o_,o_,o_,o_,o_,o_,o_,o_,o_,o_,o_,o_,o_,o_,o_,o_,o_,o_,o_,o_,o_,o_,o_] l := rfl
@[go_sem] theorem kt_sha_Words_k0 (l : List AV) : keepT i_sha_Words_k0 l = keepT [o_,o_,o_,o_,i_,o_,o_,o_,o_,o_,o_,o_,o_,o_,o_,o_,o_,i_,i_,i_,o_,o_,o_,o_,o_,o_,o_,o_,o_,o_,o_,o_,o_,o_,o_,o_,o_,o_,o_,o_,o_,o_,o_,o_,o_,o_,o_,o_,o_,o_,o_,o_,o_,o_,o_,o_,o_,o_,o_,o_,o_,o_,o_,o_,o_,o_,o_,o_,o_,o_,o_,o_,o_,o_,o_,o_,o_,o_,o_,o_,o_,o_,o_,o_,o_,o_,o_] l := rfl
@[go_sem] theorem kt_sha_Words_j0 (l : List AV) : keepT i_sha_Words_j0 l = keepT [o_,o_,o_,o_,i_,o_,o_,o_,o_,o_,o_,o_,o_,o_,o_,o_,o_,o_,o_,o_,o_,o_,o_,o_,o_,o_,o_,o_,o_,o_,o_,o_,o_,o_,o_,o_,o_,o_,o_,o_,o_,o_,o_,o_,o_,o_,o_,o_,o_,o_,o_,o_,o_,o_,o_,o_,o_,o_,o_,o_,o_,o_,o_,o_,o_,o_,o_,o_,o_,o_,o_,o_,o_,o_,o_,o_,o_,o_,o_,o_,o_,o_,o_,o_,o_,o_,o_] l := rfl
@[go_sem] theorem kt_sha_Words_j3 (l : List AV) : keepT i_sha_Words_j3 l = keepT [o_,o_,o_,o_,i_,o_,o_,i_,o_,o_,o_,o_,o_,o_,o_,o_,o_,o_,o_,o_,o_,o_,o_,o_,o_,o_,o_,o_,o_,o_,o_,o_,o_,o_,o_,o_,o_,o_,o_,o_,o_,o_,o_,o_,o_,o_,o_,o_,o_,o_,o_,o_,o_,o_,o_,o_,o_,o_,o_,o_,o_,o_,o_,o_,o_,o_,o_,o_,o_,o_,o_,o_,o_,o_,o_,o_,o_,o_,o_,o_,o_,o_,o_,o_,o_,o_,o_] l := rfl
@[go_sem] theorem kt_sha_Words_k1 (l : List AV) : keepT i_sha_Words_k1 l = keepT [o_,o_,o_,o_,i_,o_,o_,i_,o_,o_,o_,o_,o_,o_,o_,o_,o_,o_,o_,o_,o_,o_,o_,o_,o_,o_,o_,o_,o_,o_,o_,o_,o_,o_,o_,o_,o_,o_,o_,o_,o_,o_,o_,o_,o_,o_,o_,o_,o_,o_,o_,o_,o_,o_,o_,o_,o_,o_,o_,o_,o_,o_,o_,o_,o_,o_,o_,o_,o_,o_,o_,o_,o_,o_,o_,o_,o_,o_,o_,o_,o_,o_,o_,o_,o_,o_,o_] l := rfl
@[go_sem] theorem kt_sha_Words_j2 (l : List AV) : keepT i_sha_Words_j2 l = keepT [o_,o_,o_,o_,i_,o_,o_,o_,o_,o_,o_,o_,o_,o_,o_,o_,o_,o_,o_,o_,o_,o_,o_,o_,o_,o_,o_,o_,o_,o_,o_,o_,o_,o_,o_,o_,o_,o_,o_,o_,o_,o_,o_,o_,o_,o_,o_,o_,o_,o_,o_,o_,o_,o_,o_,o_,o_,o_,o_,o_,o_,o_,o_,o_,o_,o_,o_,o_,o_,o_,o_,o_,o_,o_,o_,o_,o_,o_,o_,o_,o_,o_,o_,o_,o_,o_,o_] l := rfl
@[go_sem] theorem kt_math_bits_RotateLeft32_r (l : List AV) : keepT i_math_bits_RotateLeft32_r l = keepT [o_,o_,o_,o_,i_,o_,o_,o_,o_,o_,o_,o_,o_,o_,o_,o_,o_] l := rfl
@[go_sem] theorem kt_sha_Round_r (l : List AV) : keepT i_sha_Round_r l = keepT [o_,o_,o_,o_,o_,o_,i_,o_,o_,o_,o_,o_,o_,o_,o_,o_,o_,o_,o_,o_,o_,o_,o_,o_,o_,o_,o_,o_,o_,o_,o_,o_,o_,o_,o_,o_,o_,o_,o_,o_,o_,o_,o_,o_,o_,o_,o_,o_,o_,o_,o_,o_,o_,o_,o_,o_,o_,o_,o_,o_,o_,o_,o_,o_,o_,o_,o_,o_,o_,o_,o_,o_,o_,o_,o_,o_,o_,o_,o_,o_,o_,o_,o_,o_,o_] l := rfl
@[go_sem] theorem kt_slices_Clone_sl_byte_byte_r (l : List AV) : keepT i_slices_Clone_sl_byte_byte_r l = keepT [o_,o_,i_,o_,o_,o_,o_,o_] l := rfl
@[go_sem] theorem kt_digest_Value_r (l : List AV) : keepT i_digest_Value_r l = keepT [o_,o_,i_,o_,o_,o_] l := rfl
@[go_sem] theorem kt_digest_Pair_r (l : List AV) : keepT i_digest_Pair_r l = keepT [o_,o_,o_,o_,o_,o_,i_,i_,o_,o_,o_,o_,o_,o_,o_,o_,o_,o_,o_,o_,o_,o_,o_,o_] l := rfl
@[go_sem] theorem kt_coder_Bytes_r (l : List AV) : keepT i_coder_Bytes_r l = keepT [o_,o_,i_,o_,o_,o_,o_,o_,o_] l := rfl
@[go_sem] theorem kt_coder_Number_r (l : List AV) : keepT i_coder_Number_r l = keepT [o_,o_,i_,o_,o_,o_,o_,o_,o_,o_,o_,o_,o_,o_,o_,o_,o_,o_,o_,o_,o_,o_,o_,o_,o_,o_,o_,o_,o_,o_,o_,o_,o_,o_,o_,o_,o_,o_,o_,o_,o_,o_,o_] l := rfl
@[go_sem] theorem kt_coder_Number_j1 (l : List AV) : keepT i_coder_Number_j1 l = keepT [i_,o_,o_,i_,o_,o_,o_,o_,o_,o_,o_,o_,o_,o_,o_,o_,o_,o_,o_,o_,o_,o_,o_,o_,o_,o_,o_,o_,o_,o_,o_,o_,o_,o_,o_,o_,o_,o_,o_,o_,o_,o_,o_] l := rfl
@[go_sem] theorem kt_coder_Number_k0 (l : List AV) : keepT i_coder_Number_k0 l = keepT [i_,o_,o_,i_,o_,o_,o_,o_,o_,o_,o_,o_,o_,o_,o_,o_,o_,o_,o_,o_,o_,o_,o_,o_,o_,o_,o_,o_,o_,o_,o_,o_,o_,o_,o_,o_,o_,o_,o_,o_,o_,o_,o_] l := rfl
@[go_sem] theorem kt_coder_Number_j0 (l : List AV) : keepT i_coder_Number_j0 l = keepT [i_,o_,o_,i_,o_,o_,o_,o_,o_,o_,o_,o_,o_,o_,o_,o_,o_,o_,o_,o_,o_,o_,o_,o_,o_,o_,o_,o_,o_,o_,o_,o_,o_,o_,o_,o_,o_,o_,o_,o_,o_,o_,o_] l := rfl
@[go_sem] theorem kt_coder_Number_j3 (l : List AV) : keepT i_coder_Number_j3 l = keepT [i_,o_,o_,i_,i_,o_,o_,o_,o_,o_,o_,o_,o_,o_,o_,o_,o_,o_,o_,o_,o_,o_,o_,o_,o_,o_,i_,i_,o_,o_,o_,o_,o_,o_,o_,o_,o_,o_,o_,o_,o_,o_,o_] l := rfl
@[go_sem] theorem kt_coder_Number_k1 (l : List AV) : keepT i_coder_Number_k1 l = keepT [i_,o_,o_,i_,i_,o_,o_,o_,o_,o_,o_,o_,o_,o_,o_,o_,o_,o_,o_,o_,o_,o_,o_,o_,o_,o_,i_,i_,o_,o_,o_,o_,o_,o_,o_,o_,o_,o_,o_,o_,o_,o_,o_] l := rfl
@[go_sem] theorem kt_coder_Number_j2 (l : List AV) : keepT i_coder_Number_j2 l = keepT [o_,o_,o_,o_,i_,o_,o_,o_,o_,o_,o_,o_,o_,o_,o_,o_,o_,o_,o_,o_,o_,o_,o_,o_,o_,o_,o_,o_,o_,o_,o_,o_,o_,o_,o_,o_,o_,o_,o_,o_,o_,o_,o_] l := rfl
@[go_sem] theorem kt_slices_Concat_sl_byte_byte_r (l : List AV) : keepT i_slices_Concat_sl_byte_byte_r l = keepT [o_,o_,i_,o_,o_,o_,o_,o_,o_,o_,o_,o_,o_,o_,o_,o_,o_,o_,o_,o_,o_,o_,o_,o_,o_,o_,o_,o_,o_,o_,o_,o_,o_,o_,o_,o_] l := rfl
@[go_sem] theorem kt_slices_Concat_sl_byte_byte_j1 (l : List AV) : keepT i_slices_Concat_sl_byte_byte_j1 l = keepT [i_,o_,o_,i_,o_,o_,o_,o_,o_,i_,i_,i_,o_,o_,o_,o_,o_,o_,o_,o_,o_,o_,o_,o_,o_,o_,o_,o_,o_,o_,o_,o_,o_,o_,o_,o_] l := rfl
@[go_sem] theorem kt_slices_Concat_sl_byte_byte_k0 (l : List AV) : keepT i_slices_Concat_sl_byte_byte_k0 l = keepT [i_,o_,o_,i_,o_,o_,o_,o_,o_,i_,i_,i_,o_,o_,o_,o_,o_,o_,o_,o_,o_,o_,o_,o_,o_,o_,o_,o_,o_,o_,o_,o_,o_,o_,o_,o_] l := rfl
@[go_sem] theorem kt_slices_Concat_sl_byte_byte_j0 (l : List AV) : keepT i_slices_Concat_sl_byte_byte_j0 l = keepT [i_,o_,o_,i_,o_,o_,o_,o_,o_,o_,o_,o_,o_,o_,o_,o_,o_,o_,o_,o_,o_,o_,o_,o_,o_,o_,o_,o_,o_,o_,o_,o_,o_,o_,o_,o_] l := rfl
@[go_sem] theorem kt_slices_Concat_sl_byte_byte_j3 (l : List AV) : keepT i_slices_Concat_sl_byte_byte_j3 l = keepT [o_,o_,o_,o_,o_,o_,i_,o_,o_,o_,o_,o_,o_,o_,o_,o_,o_,o_,o_,o_,o_,o_,o_,o_,o_,i_,i_,i_,o_,o_,o_,o_,o_,o_,o_,o_] l := rfl
@[go_sem] theorem kt_slices_Concat_sl_byte_byte_k1 (l : List AV) : keepT i_slices_Concat_sl_byte_byte_k1 l = keepT [o_,o_,o_,o_,o_,o_,i_,o_,o_,o_,o_,o_,o_,o_,o_,o_,o_,o_,o_,o_,o_,o_,o_,o_,o_,i_,i_,i_,o_,o_,o_,o_,o_,o_,o_,o_] l := rfl
@[go_sem] theorem kt_slices_Concat_sl_byte_byte_j2 (l : List AV) : keepT i_slices_Concat_sl_byte_byte_j2 l = keepT [o_,o_,o_,o_,o_,o_,i_,o_,o_,o_,o_,o_,o_,o_,o_,o_,o_,o_,o_,o_,o_,o_,o_,o_,o_,o_,o_,o_,o_,o_,o_,o_,o_,o_,o_,o_] l := rfl
@[go_sem] theorem kt_slices_Grow_sl_byte_byte_r (l : List AV) : keepT i_slices_Grow_sl_byte_byte_r l = keepT [o_,o_,o_,o_,i_,o_,o_,o_,o_,o_,o_,o_,o_,o_,o_,o_,o_,o_,o_,o_,o_,o_,o_,o_,o_,o_,o_] l := rfl
@[go_sem] theorem kt_tree_of_r (l : List AV) : keepT i_tree_of_r l = keepT [o_,o_,o_,o_,o_,o_,i_,i_,o_,o_,o_,o_,o_,o_,o_,o_] l := rfl
@[go_sem] theorem kt_digest_Node_r (l : List AV) : keepT i_digest_Node_r l = keepT [o_,o_,o_,o_,o_,o_,o_,o_,i_,i_,o_,o_,o_,o_,o_,o_,o_,o_,o_,o_,o_,o_,o_,o_,o_,o_,o_,o_,o_,o_,o_,o_,o_,o_,o_,o_,o_,o_] l := rfl
@[go_sem] theorem kt_tree_Full_r (l : List AV) : keepT i_tree_Full_r l = keepT [o_,o_,i_,o_,o_,o_,o_,o_,o_,o_] l := rfl
@[go_sem] theorem kt_tree_full_r (l : List AV) : keepT i_tree_full_r l = keepT [o_,o_,i_,o_,o_,o_,o_,o_,o_,o_,o_,o_,o_,o_,o_] l := rfl
@[go_sem] theorem kt_tree_full_1_r (l : List AV) : keepT i_tree_full_1_r l = keepT [o_,o_,i_,o_,o_,o_] l := rfl
@[go_sem] theorem kt_law04_small_r (l : List AV) : keepT i_law04_small_r l = keepT [o_,o_,i_,o_,o_,o_] l := rfl
@[go_sem] theorem kt_ref04_Light_r (l : List AV) : keepT i_ref04_Light_r l = keepT [o_,o_,o_,o_,o_,o_,i_,o_,o_,o_,o_,o_,o_,o_,o_,o_,o_,o_,o_,o_,o_,o_,o_,o_,o_,o_,o_,o_,o_,o_,o_,o_,o_,o_,o_,o_,o_,o_,o_,o_,o_,o_,o_,o_,o_,o_,o_,o_,o_,o_,o_,o_,o_,o_,o_,o_,o_,o_,o_,o_] l := rfl
@[go_sem] theorem kt_ref04_Light_j1 (l : List AV) : keepT i_ref04_Light_j1 l = keepT [o_,i_,i_,i_,o_,o_,o_,i_,o_,o_,o_,o_,o_,o_,o_,o_,o_,o_,o_,o_,o_,o_,o_,o_,o_,o_,o_,o_,o_,o_,o_,o_,o_,o_,o_,o_,o_,o_,o_,o_,o_,o_,o_,o_,o_,o_,o_,o_,o_,o_,o_,o_,o_,o_,o_,o_,o_,o_,o_,o_] l := rfl
@[go_sem] theorem kt_ref04_Light_k0 (l : List AV) : keepT i_ref04_Light_k0 l = keepT [o_,i_,i_,i_,o_,o_,o_,i_,o_,o_,o_,o_,o_,o_,o_,o_,o_,o_,o_,o_,o_,o_,o_,o_,o_,o_,o_,o_,o_,o_,o_,o_,o_,o_,o_,o_,o_,o_,o_,o_,o_,o_,o_,o_,o_,o_,o_,o_,o_,o_,o_,o_,o_,o_,o_,o_,o_,o_,o_,o_] l := rfl
@[go_sem] theorem kt_ref04_Light_j0 (l : List AV) : keepT i_ref04_Light_j0 l = keepT [o_,i_,o_,o_,o_,o_,o_,o_,o_,o_,o_,o_,o_,o_,o_,o_,o_,o_,o_,o_,o_,o_,o_,o_,o_,o_,o_,o_,o_,o_,o_,o_,o_,o_,o_,o_,o_,o_,o_,o_,o_,o_,o_,o_,o_,o_,o_,o_,o_,o_,o_,o_,o_,o_,o_,o_,o_,o_,o_,o_] l := rfl
@[go_sem] theorem kt_ref04_Copy_r (l : List AV) : keepT i_ref04_Copy_r l = keepT [o_,o_,i_,o_,o_,o_,o_,o_,o_,o_,o_,o_,o_,o_,o_,o_,o_,o_,o_,o_,o_,o_,o_,o_,o_,o_,o_,o_,o_,o_,o_,o_,o_,o_,o_,o_,o_,o_,o_] l := rfl
@[go_sem] theorem kt_ref04_Copy_j1 (l : List AV) : keepT i_ref04_Copy_j1 l = keepT [o_,i_,i_,i_,i_,o_,o_,o_,o_,o_,o_,o_,o_,o_,o_,o_,o_,o_,o_,o_,o_,o_,o_,o_,o_,o_,o_,o_,o_,o_,o_,o_,o_,o_,o_,o_,o_,o_,o_] l := rfl
@[go_sem] theorem kt_ref04_Copy_k0 (l : List AV) : keepT i_ref04_Copy_k0 l = keepT [o_,i_,i_,i_,i_,o_,o_,o_,o_,o_,o_,o_,o_,o_,o_,o_,o_,o_,o_,o_,o_,o_,o_,o_,o_,o_,o_,o_,o_,o_,o_,o_,o_,o_,o_,o_,o_,o_,o_] l := rfl
@[go_sem] theorem kt_ref04_Copy_j0 (l : List AV) : keepT i_ref04_Copy_j0 l = keepT [o_,o_,i_,i_,o_,o_,o_,o_,o_,o_,o_,o_,o_,o_,o_,o_,o_,o_,o_,o_,o_,o_,o_,o_,o_,o_,o_,o_,o_,o_,o_,o_,o_,o_,o_,o_,o_,o_,o_] l := rfl
@[go_sem] theorem kt_tree_List_r (l : List AV) : keepT i_tree_List_r l = keepT [o_,o_,i_,o_,o_,o_,o_,o_,o_,o_,o_,o_,o_] l := rfl
@[go_sem] theorem kt_tree_List_1_r (l : List AV) : keepT i_tree_List_1_r l = keepT [o_,o_,o_,o_,o_,o_,o_,o_,o_,o_,o_,o_,o_,o_,o_,o_,o_,o_,o_,o_,o_,o_,o_,o_,o_,o_] l := rfl
@[go_sem] theorem kt_ref04_Same_r (l : List AV) : keepT i_ref04_Same_r l = keepT [o_,o_,o_,o_,i_,o_,o_,o_,o_,o_,o_,o_,o_,o_,o_,o_,o_,o_,o_,o_,o_,o_,o_,o_,o_,o_,o_,o_,o_,o_,o_,o_,o_,o_,o_,o_,o_,o_,o_,o_,o_,o_,o_,o_,o_,o_,o_,o_,o_,o_,o_,o_,o_,o_,o_,o_,o_,o_,o_,o_,o_,o_,o_,o_,o_,o_,o_,o_] l := rfl
@[go_sem] theorem kt_ref04_Same_j1 (l : List AV) : keepT i_ref04_Same_j1 l = keepT [o_,o_,i_,i_,o_,i_,o_,o_,o_,o_,o_,o_,o_,o_,o_,o_,o_,o_,o_,o_,o_,o_,o_,o_,o_,o_,o_,o_,o_,o_,o_,o_,o_,o_,o_,o_,o_,o_,o_,o_,o_,o_,o_,o_,o_,o_,o_,o_,o_,o_,o_,o_,o_,o_,o_,o_,o_,o_,o_,o_,o_,o_,o_,o_,o_,o_,o_,o_] l := rfl
@[go_sem] theorem kt_ref04_Same_k0 (l : List AV) : keepT i_ref04_Same_k0 l = keepT [o_,o_,i_,i_,o_,i_,o_,o_,o_,o_,o_,o_,o_,o_,o_,o_,o_,o_,o_,o_,o_,o_,o_,o_,o_,o_,o_,o_,o_,o_,o_,o_,o_,o_,o_,o_,o_,o_,o_,o_,o_,o_,o_,o_,o_,o_,o_,o_,o_,o_,o_,o_,o_,o_,o_,o_,o_,o_,o_,o_,o_,o_,o_,o_,o_,o_,o_,o_] l := rfl
@[go_sem] theorem kt_ref04_Same_j0 (l : List AV) : keepT i_ref04_Same_j0 l = keepT [o_,o_,o_,o_,o_,o_,o_,o_,o_,o_,o_,o_,o_,o_,o_,o_,o_,o_,o_,o_,o_,o_,o_,o_,o_,o_,o_,o_,o_,o_,o_,o_,o_,o_,o_,o_,o_,o_,o_,o_,o_,o_,o_,o_,o_,o_,o_,o_,o_,o_,o_,o_,o_,o_,o_,o_,o_,o_,o_,o_,o_,o_,o_,o_,o_,o_,o_,o_] l := rfl
noncomputable def L_law04_TreeStays_0 (st : St) : Option (Ex × St) := lp tab G0 4 i_law04_TreeStays_k0 i_law04_TreeStays_b0 st
theorem L_law04_TreeStays_0_eq (st : St) : L_law04_TreeStays_0 st = againL L_law04_TreeStays_0 4 i_law04_TreeStays_k0 (app tab G0 4 [] (ex tab G0 4 i_law04_TreeStays_b0 st)) := lp_eq tab G0 4 i_law04_TreeStays_k0 i_law04_TreeStays_b0 st
@[go_sem] theorem L_law04_TreeStays_0_in (K : List Fr) (st : St) : app tab G0 4 K (ex tab G0 4 (.loop i_law04_TreeStays_k0 i_law04_TreeStays_b0) st) = app tab G0 4 K (L_law04_TreeStays_0 (clean 4 i_law04_TreeStays_k0 st)) := rfl
noncomputable def L_slices_IndexFunc_sl_api_Tree_api_Tree_0 (st : St) : Option (Ex × St) := lp tab G0 0 i_slices_IndexFunc_sl_api_Tree_api_Tree_k0 i_slices_IndexFunc_sl_api_Tree_api_Tree_b0 st
theorem L_slices_IndexFunc_sl_api_Tree_api_Tree_0_eq (st : St) : L_slices_IndexFunc_sl_api_Tree_api_Tree_0 st = againL L_slices_IndexFunc_sl_api_Tree_api_Tree_0 0 i_slices_IndexFunc_sl_api_Tree_api_Tree_k0 (app tab G0 0 [] (ex tab G0 0 i_slices_IndexFunc_sl_api_Tree_api_Tree_b0 st)) := lp_eq tab G0 0 i_slices_IndexFunc_sl_api_Tree_api_Tree_k0 i_slices_IndexFunc_sl_api_Tree_api_Tree_b0 st
@[go_sem] theorem L_slices_IndexFunc_sl_api_Tree_api_Tree_0_in (K : List Fr) (st : St) : app tab G0 0 K (ex tab G0 0 (.loop i_slices_IndexFunc_sl_api_Tree_api_Tree_k0 i_slices_IndexFunc_sl_api_Tree_api_Tree_b0) st) = app tab G0 0 K (L_slices_IndexFunc_sl_api_Tree_api_Tree_0 (clean 0 i_slices_IndexFunc_sl_api_Tree_api_Tree_k0 st)) := rfl
noncomputable def L_sha_Sum_1 (st : St) : Option (Ex × St) := lp tab G0 3 i_sha_Sum_k1 i_sha_Sum_b1 st
theorem L_sha_Sum_1_eq (st : St) : L_sha_Sum_1 st = againL L_sha_Sum_1 3 i_sha_Sum_k1 (app tab G0 3 [] (ex tab G0 3 i_sha_Sum_b1 st)) := lp_eq tab G0 3 i_sha_Sum_k1 i_sha_Sum_b1 st
@[go_sem] theorem L_sha_Sum_1_in (K : List Fr) (st : St) : app tab G0 3 K (ex tab G0 3 (.loop i_sha_Sum_k1 i_sha_Sum_b1) st) = app tab G0 3 K (L_sha_Sum_1 (clean 3 i_sha_Sum_k1 st)) := rfl
noncomputable def L_sha_Sum_0 (st : St) : Option (Ex × St) := lp tab G0 3 i_sha_Sum_k0 i_sha_Sum_b0 st
theorem L_sha_Sum_0_eq (st : St) : L_sha_Sum_0 st = againL L_sha_Sum_0 3 i_sha_Sum_k0 (app tab G0 3 [] (ex tab G0 3 i_sha_Sum_b0 st)) := lp_eq tab G0 3 i_sha_Sum_k0 i_sha_Sum_b0 st
@[go_sem] theorem L_sha_Sum_0_in (K : List Fr) (st : St) : app tab G0 3 K (ex tab G0 3 (.loop i_sha_Sum_k0 i_sha_Sum_b0) st) = app tab G0 3 K (L_sha_Sum_0 (clean 3 i_sha_Sum_k0 st)) := rfl
noncomputable def L_sha_Sum_2 (st : St) : Option (Ex × St) := lp tab G0 3 i_sha_Sum_k2 i_sha_Sum_b2 st
theorem L_sha_Sum_2_eq (st : St) : L_sha_Sum_2 st = againL L_sha_Sum_2 3 i_sha_Sum_k2 (app tab G0 3 [] (ex tab G0 3 i_sha_Sum_b2 st)) := lp_eq tab G0 3 i_sha_Sum_k2 i_sha_Sum_b2 st
@[go_sem] theorem L_sha_Sum_2_in (K : List Fr) (st : St) : app tab G0 3 K (ex tab G0 3 (.loop i_sha_Sum_k2 i_sha_Sum_b2) st) = app tab G0 3 K (L_sha_Sum_2 (clean 3 i_sha_Sum_k2 st)) := rfl
noncomputable def L_sha_Tail_0 (st : St) : Option (Ex × St) := lp tab G0 1 i_sha_Tail_k0 i_sha_Tail_b0 st
theorem L_sha_Tail_0_eq (st : St) : L_sha_Tail_0 st = againL L_sha_Tail_0 1 i_sha_Tail_k0 (app tab G0 1 [] (ex tab G0 1 i_sha_Tail_b0 st)) := lp_eq tab G0 1 i_sha_Tail_k0 i_sha_Tail_b0 st
@[go_sem] theorem L_sha_Tail_0_in (K : List Fr) (st : St) : app tab G0 1 K (ex tab G0 1 (.loop i_sha_Tail_k0 i_sha_Tail_b0) st) = app tab G0 1 K (L_sha_Tail_0 (clean 1 i_sha_Tail_k0 st)) := rfl
noncomputable def L_sha_Tail_1 (st : St) : Option (Ex × St) := lp tab G0 1 i_sha_Tail_k1 i_sha_Tail_b1 st
theorem L_sha_Tail_1_eq (st : St) : L_sha_Tail_1 st = againL L_sha_Tail_1 1 i_sha_Tail_k1 (app tab G0 1 [] (ex tab G0 1 i_sha_Tail_b1 st)) := lp_eq tab G0 1 i_sha_Tail_k1 i_sha_Tail_b1 st
@[go_sem] theorem L_sha_Tail_1_in (K : List Fr) (st : St) : app tab G0 1 K (ex tab G0 1 (.loop i_sha_Tail_k1 i_sha_Tail_b1) st) = app tab G0 1 K (L_sha_Tail_1 (clean 1 i_sha_Tail_k1 st)) := rfl
noncomputable def L_sha_Step_0 (st : St) : Option (Ex × St) := lp tab G0 3 i_sha_Step_k0 i_sha_Step_b0 st
theorem L_sha_Step_0_eq (st : St) : L_sha_Step_0 st = againL L_sha_Step_0 3 i_sha_Step_k0 (app tab G0 3 [] (ex tab G0 3 i_sha_Step_b0 st)) := lp_eq tab G0 3 i_sha_Step_k0 i_sha_Step_b0 st
@[go_sem] theorem L_sha_Step_0_in (K : List Fr) (st : St) : app tab G0 3 K (ex tab G0 3 (.loop i_sha_Step_k0 i_sha_Step_b0) st) = app tab G0 3 K (L_sha_Step_0 (clean 3 i_sha_Step_k0 st)) := rfl
noncomputable def L_sha_Step_1 (st : St) : Option (Ex × St) := lp tab G0 3 i_sha_Step_k1 i_sha_Step_b1 st
theorem L_sha_Step_1_eq (st : St) : L_sha_Step_1 st = againL L_sha_Step_1 3 i_sha_Step_k1 (app tab G0 3 [] (ex tab G0 3 i_sha_Step_b1 st)) := lp_eq tab G0 3 i_sha_Step_k1 i_sha_Step_b1 st
@[go_sem] theorem L_sha_Step_1_in (K : List Fr) (st : St) : app tab G0 3 K (ex tab G0 3 (.loop i_sha_Step_k1 i_sha_Step_b1) st) = app tab G0 3 K (L_sha_Step_1 (clean 3 i_sha_Step_k1 st)) := rfl
noncomputable def L_sha_Words_0 (st : St) : Option (Ex × St) := lp tab G0 1 i_sha_Words_k0 i_sha_Words_b0 st
theorem L_sha_Words_0_eq (st : St) : L_sha_Words_0 st = againL L_sha_Words_0 1 i_sha_Words_k0 (app tab G0 1 [] (ex tab G0 1 i_sha_Words_b0 st)) := lp_eq tab G0 1 i_sha_Words_k0 i_sha_Words_b0 st
@[go_sem] theorem L_sha_Words_0_in (K : List Fr) (st : St) : app tab G0 1 K (ex tab G0 1 (.loop i_sha_Words_k0 i_sha_Words_b0) st) = app tab G0 1 K (L_sha_Words_0 (clean 1 i_sha_Words_k0 st)) := rfl
noncomputable def L_sha_Words_1 (st : St) : Option (Ex × St) := lp tab G0 1 i_sha_Words_k1 i_sha_Words_b1 st
theorem L_sha_Words_1_eq (st : St) : L_sha_Words_1 st = againL L_sha_Words_1 1 i_sha_Words_k1 (app tab G0 1 [] (ex tab G0 1 i_sha_Words_b1 st)) := lp_eq tab G0 1 i_sha_Words_k1 i_sha_Words_b1 st
@[go_sem] theorem L_sha_Words_1_in (K : List Fr) (st : St) : app tab G0 1 K (ex tab G0 1 (.loop i_sha_Words_k1 i_sha_Words_b1) st) = app tab G0 1 K (L_sha_Words_1 (clean 1 i_sha_Words_k1 st)) := rfl
noncomputable def L_coder_Number_0 (st : St) : Option (Ex × St) := lp tab G0 1 i_coder_Number_k0 i_coder_Number_b0 st
theorem L_coder_Number_0_eq (st : St) : L_coder_Number_0 st = againL L_coder_Number_0 1 i_coder_Number_k0 (app tab G0 1 [] (ex tab G0 1 i_coder_Number_b0 st)) := lp_eq tab G0 1 i_coder_Number_k0 i_coder_Number_b0 st
@[go_sem] theorem L_coder_Number_0_in (K : List Fr) (st : St) : app tab G0 1 K (ex tab G0 1 (.loop i_coder_Number_k0 i_coder_Number_b0) st) = app tab G0 1 K (L_coder_Number_0 (clean 1 i_coder_Number_k0 st)) := rfl
noncomputable def L_coder_Number_1 (st : St) : Option (Ex × St) := lp tab G0 1 i_coder_Number_k1 i_coder_Number_b1 st
theorem L_coder_Number_1_eq (st : St) : L_coder_Number_1 st = againL L_coder_Number_1 1 i_coder_Number_k1 (app tab G0 1 [] (ex tab G0 1 i_coder_Number_b1 st)) := lp_eq tab G0 1 i_coder_Number_k1 i_coder_Number_b1 st
@[go_sem] theorem L_coder_Number_1_in (K : List Fr) (st : St) : app tab G0 1 K (ex tab G0 1 (.loop i_coder_Number_k1 i_coder_Number_b1) st) = app tab G0 1 K (L_coder_Number_1 (clean 1 i_coder_Number_k1 st)) := rfl
noncomputable def L_slices_Concat_sl_byte_byte_0 (st : St) : Option (Ex × St) := lp tab G0 2 i_slices_Concat_sl_byte_byte_k0 i_slices_Concat_sl_byte_byte_b0 st
theorem L_slices_Concat_sl_byte_byte_0_eq (st : St) : L_slices_Concat_sl_byte_byte_0 st = againL L_slices_Concat_sl_byte_byte_0 2 i_slices_Concat_sl_byte_byte_k0 (app tab G0 2 [] (ex tab G0 2 i_slices_Concat_sl_byte_byte_b0 st)) := lp_eq tab G0 2 i_slices_Concat_sl_byte_byte_k0 i_slices_Concat_sl_byte_byte_b0 st
@[go_sem] theorem L_slices_Concat_sl_byte_byte_0_in (K : List Fr) (st : St) : app tab G0 2 K (ex tab G0 2 (.loop i_slices_Concat_sl_byte_byte_k0 i_slices_Concat_sl_byte_byte_b0) st) = app tab G0 2 K (L_slices_Concat_sl_byte_byte_0 (clean 2 i_slices_Concat_sl_byte_byte_k0 st)) := rfl
noncomputable def L_slices_Concat_sl_byte_byte_1 (st : St) : Option (Ex × St) := lp tab G0 2 i_slices_Concat_sl_byte_byte_k1 i_slices_Concat_sl_byte_byte_b1 st
theorem L_slices_Concat_sl_byte_byte_1_eq (st : St) : L_slices_Concat_sl_byte_byte_1 st = againL L_slices_Concat_sl_byte_byte_1 2 i_slices_Concat_sl_byte_byte_k1 (app tab G0 2 [] (ex tab G0 2 i_slices_Concat_sl_byte_byte_b1 st)) := lp_eq tab G0 2 i_slices_Concat_sl_byte_byte_k1 i_slices_Concat_sl_byte_byte_b1 st
@[go_sem] theorem L_slices_Concat_sl_byte_byte_1_in (K : List Fr) (st : St) : app tab G0 2 K (ex tab G0 2 (.loop i_slices_Concat_sl_byte_byte_k1 i_slices_Concat_sl_byte_byte_b1) st) = app tab G0 2 K (L_slices_Concat_sl_byte_byte_1 (clean 2 i_slices_Concat_sl_byte_byte_k1 st)) := rfl
noncomputable def L_ref04_Light_0 (st : St) : Option (Ex × St) := lp tab G0 1 i_ref04_Light_k0 i_ref04_Light_b0 st
theorem L_ref04_Light_0_eq (st : St) : L_ref04_Light_0 st = againL L_ref04_Light_0 1 i_ref04_Light_k0 (app tab G0 1 [] (ex tab G0 1 i_ref04_Light_b0 st)) := lp_eq tab G0 1 i_ref04_Light_k0 i_ref04_Light_b0 st
@[go_sem] theorem L_ref04_Light_0_in (K : List Fr) (st : St) : app tab G0 1 K (ex tab G0 1 (.loop i_ref04_Light_k0 i_ref04_Light_b0) st) = app tab G0 1 K (L_ref04_Light_0 (clean 1 i_ref04_Light_k0 st)) := rfl
noncomputable def L_ref04_Copy_0 (st : St) : Option (Ex × St) := lp tab G0 7 i_ref04_Copy_k0 i_ref04_Copy_b0 st
theorem L_ref04_Copy_0_eq (st : St) : L_ref04_Copy_0 st = againL L_ref04_Copy_0 7 i_ref04_Copy_k0 (app tab G0 7 [] (ex tab G0 7 i_ref04_Copy_b0 st)) := lp_eq tab G0 7 i_ref04_Copy_k0 i_ref04_Copy_b0 st
@[go_sem] theorem L_ref04_Copy_0_in (K : List Fr) (st : St) : app tab G0 7 K (ex tab G0 7 (.loop i_ref04_Copy_k0 i_ref04_Copy_b0) st) = app tab G0 7 K (L_ref04_Copy_0 (clean 7 i_ref04_Copy_k0 st)) := rfl
noncomputable def L_ref04_Same_0 (st : St) : Option (Ex × St) := lp tab G0 2 i_ref04_Same_k0 i_ref04_Same_b0 st
theorem L_ref04_Same_0_eq (st : St) : L_ref04_Same_0 st = againL L_ref04_Same_0 2 i_ref04_Same_k0 (app tab G0 2 [] (ex tab G0 2 i_ref04_Same_b0 st)) := lp_eq tab G0 2 i_ref04_Same_k0 i_ref04_Same_b0 st
@[go_sem] theorem L_ref04_Same_0_in (K : List Fr) (st : St) : app tab G0 2 K (ex tab G0 2 (.loop i_ref04_Same_k0 i_ref04_Same_b0) st) = app tab G0 2 K (L_ref04_Same_0 (clean 2 i_ref04_Same_k0 st)) := rfl
end Go.Proofs.YtebiajdkgpcidaaDoor
