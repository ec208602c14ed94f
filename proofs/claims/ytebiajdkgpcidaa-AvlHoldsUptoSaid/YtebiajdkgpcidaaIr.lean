/- The IR of the seat's functions, printed by a program of this session. -/
import Derived.Test.YtebiajdkgpcidaaEvE
set_option linter.unusedVariables false
namespace Go.Proofs.Ytebiajdkgpcidaa
open Go.Ev

abbrev ty_uint8 : Nat := 5
abbrev ty_api_Tree : Nat := 33
abbrev ty_api_Code : Nat := 41
abbrev ty_api_Pair : Nat := 49
abbrev n_law05_AvlHolds : Nat := 17
abbrev n_law05_up : Nat := 33
abbrev n_avl_Is : Nat := 35
abbrev n_avl_Get : Nat := 36
abbrev n_avl_Put : Nat := 39
abbrev n_avl_Delete : Nat := 47
abbrev n_ref04_List : Nat := 49
abbrev n_slices_Clone_sl_byte_byte : Nat := 50
abbrev n_bytes_Compare : Nat := 52
abbrev n_tree_List : Nat := 53
abbrev n_tree_Full : Nat := 57
abbrev n_avl_even : Nat := 58
abbrev n_avl_asked : Nat := 59
abbrev n_avl_put : Nat := 60
abbrev n_tree_Check : Nat := 63
abbrev n_avl_take : Nat := 75
abbrev n_internal_bytealg_Compare : Nat := 76
abbrev n_tree_List_1 : Nat := 77
abbrev n_tree_full : Nat := 80
abbrev n_avl_node : Nat := 81
abbrev n_avl_leveled : Nat := 82
abbrev n_tree_deep : Nat := 86
abbrev n_tree_formed : Nat := 87
abbrev n_slices_ContainsFunc_sl_api_Tree_api_Tree : Nat := 94
abbrev n_tree_full_1 : Nat := 95
abbrev n_avl_depth : Nat := 96
abbrev n_avl_left : Nat := 97
abbrev n_avl_right : Nat := 98
abbrev n_tree_deep_1 : Nat := 99
abbrev n_tree_formed_1 : Nat := 100
abbrev n_slices_IndexFunc_sl_api_Tree_api_Tree : Nat := 104
def i_law05_AvlHolds_r : List Bool := [false, false, true, false, false, false, false, false, false, false, false, false, false, false, false, false, false, false, false, false, false, false, false, false, false, false, false, false, false, false, false, false, false, false, false, false, false, false, false, false, false, false, false, false, false, false, false, false, false, false, false, false, false, false, false, false, false, false, false, false, false, false, false, false, false, false, false, false, false, false, false, false, false, false, false, false, false, false, false, false, false, false, false, false, false, false, false, false, false, false, false, false, false, false, false, false, false, false, false, false, false, false, false, false, false, false, false, false, false, false, false, false, false, false, false, false, false, false, false, false, false, false, false, false, false, false, false, false, false, false, false, false, false, false, false, false, false, false, false, false, false, false, false, false, false, false, false, false, false, false, false, false, false, false]
def i_law05_AvlHolds_j3 : List Bool := [true, false, false, true, true, true, true, true, true, true, true, false, false, false, false, false, false, false, false, false, false, false, false, false, false, false, false, false, false, false, false, false, false, false, false, false, false, false, false, false, false, false, false, false, false, false, false, false, false, false, false, false, false, false, false, false, false, false, false, false, false, false, false, false, false, false, false, false, false, false, false, false, false, false, false, false, false, false, false, false, false, false, false, false, false, false, false, false, false, false, false, false, false, false, false, false, false, false, false, false, false, false, false, false, false, false, false, false, false, false, false, false, false, false, false, false, false, false, false, false, false, false, false, false, false, false, false, false, false, false, false, false, false, false, false, false, false, false, false, false, false, false, false, false, false, false, false, false, false, false, false, false, false, false]
def i_law05_AvlHolds_k1 : List Bool := [true, false, false, true, true, true, true, true, true, true, true, false, false, false, false, false, false, false, false, false, false, false, false, false, false, false, false, false, false, false, false, false, false, false, false, false, false, false, false, false, false, false, false, false, false, false, false, false, false, false, false, false, false, false, false, false, false, false, false, false, false, false, false, false, false, false, false, false, false, false, false, false, false, false, false, false, false, false, false, false, false, false, false, false, false, false, false, false, false, false, false, false, false, false, false, false, false, false, false, false, false, false, false, false, false, false, false, false, false, false, false, false, false, false, false, false, false, false, false, false, false, false, false, false, false, false, false, false, false, false, false, false, false, false, false, false, false, false, false, false, false, false, false, false, false, false, false, false, false, false, false, false, false, false]
def i_law05_AvlHolds_j2 : List Bool := [true, false, false, true, true, false, true, true, true, true, false, false, false, false, false, false, false, false, false, false, false, false, false, false, false, false, false, false, false, false, false, false, false, false, false, false, false, false, false, false, false, false, false, false, false, false, false, false, false, false, false, false, false, false, false, false, false, false, false, false, false, false, false, false, false, false, false, false, false, false, false, false, false, false, false, false, false, false, false, false, false, false, false, false, false, false, false, false, false, false, false, false, false, false, false, false, false, false, false, false, false, false, false, false, false, false, false, false, false, false, false, false, false, false, false, false, false, false, false, false, false, false, false, false, false, false, false, false, false, false, false, false, false, false, false, false, false, false, false, false, false, false, false, false, false, false, false, false, false, false, false, false, false, false]
def i_law05_AvlHolds_j1 : List Bool := [true, false, false, true, true, true, true, false, false, false, false, false, false, false, false, false, false, false, false, false, false, false, false, false, false, false, false, false, false, false, false, false, false, false, false, false, false, false, false, false, false, false, false, false, false, false, false, false, false, false, false, false, false, false, false, false, false, false, false, false, false, false, false, false, false, false, false, false, false, false, false, false, false, false, false, false, false, false, false, false, false, false, false, false, false, false, false, false, false, false, false, false, false, false, false, false, false, false, false, false, false, false, false, false, false, false, false, false, false, false, false, false, false, false, false, false, false, false, false, false, false, false, false, false, false, false, false, false, false, false, false, false, false, false, false, false, false, false, false, false, false, false, false, false, false, false, false, false, false, false, false, false, false, false]
def i_law05_AvlHolds_k0 : List Bool := [true, false, false, true, true, true, true, false, false, false, false, false, false, false, false, false, false, false, false, false, false, false, false, false, false, false, false, false, false, false, false, false, false, false, false, false, false, false, false, false, false, false, false, false, false, false, false, false, false, false, false, false, false, false, false, false, false, false, false, false, false, false, false, false, false, false, false, false, false, false, false, false, false, false, false, false, false, false, false, false, false, false, false, false, false, false, false, false, false, false, false, false, false, false, false, false, false, false, false, false, false, false, false, false, false, false, false, false, false, false, false, false, false, false, false, false, false, false, false, false, false, false, false, false, false, false, false, false, false, false, false, false, false, false, false, false, false, false, false, false, false, false, false, false, false, false, false, false, false, false, false, false, false, false]
def i_law05_AvlHolds_j0 : List Bool := [false, false, false, true, true, true, false, false, false, false, false, false, false, false, false, false, false, false, false, false, false, false, false, false, false, false, false, false, false, false, false, false, false, false, false, false, false, false, false, false, false, false, false, false, false, false, false, false, false, false, false, false, false, false, false, false, false, false, false, false, false, false, false, false, false, false, false, false, false, false, false, false, false, false, false, false, false, false, false, false, false, false, false, false, false, false, false, false, false, false, false, false, false, false, false, false, false, false, false, false, false, false, false, false, false, false, false, false, false, false, false, false, false, false, false, false, false, false, false, false, false, false, false, false, false, false, false, false, false, false, false, false, false, false, false, false, false, false, false, false, false, false, false, false, false, false, false, false, false, false, false, false, false, false]
def i_law05_AvlHolds_j5 : List Bool := [false, false, false, true, true, true, false, false, false, false, false, false, false, false, false, false, true, false, false, false, false, false, false, false, false, false, false, false, false, false, false, false, false, false, false, false, false, false, false, false, false, false, false, false, false, false, false, false, false, false, false, false, false, false, false, false, false, false, false, false, false, false, false, false, false, false, false, false, false, false, false, false, false, false, false, false, false, false, false, false, false, false, false, false, false, false, false, false, false, false, false, false, false, false, false, false, false, false, false, false, false, false, false, false, false, false, false, false, false, false, false, false, false, false, false, false, false, false, false, false, false, false, false, false, false, false, false, false, false, false, false, false, false, false, false, false, false, false, false, false, false, false, false, false, false, false, false, false, false, false, false, false, false, false]
def i_law05_AvlHolds_k2 : List Bool := [false, false, false, true, true, true, false, false, false, false, false, false, false, false, false, false, true, false, false, false, false, false, false, false, false, false, false, false, false, false, false, false, false, false, false, false, false, false, false, false, false, false, false, false, false, false, false, false, false, false, false, false, false, false, false, false, false, false, false, false, false, false, false, false, false, false, false, false, false, false, false, false, false, false, false, false, false, false, false, false, false, false, false, false, false, false, false, false, false, false, false, false, false, false, false, false, false, false, false, false, false, false, false, false, false, false, false, false, false, false, false, false, false, false, false, false, false, false, false, false, false, false, false, false, false, false, false, false, false, false, false, false, false, false, false, false, false, false, false, false, false, false, false, false, false, false, false, false, false, false, false, false, false, false]
def i_law05_AvlHolds_j4 : List Bool := [false, false, false, true, false, false, false, false, false, false, false, false, false, false, false, false, false, false, false, false, false, false, false, false, false, false, false, false, false, false, false, false, false, false, false, false, false, false, false, false, false, false, false, false, false, false, false, false, false, false, false, false, false, false, false, false, false, false, false, false, false, false, false, false, false, false, false, false, false, false, false, false, false, false, false, false, false, false, false, false, false, false, false, false, false, false, false, false, false, false, false, false, false, false, false, false, false, false, false, false, false, false, false, false, false, false, false, false, false, false, false, false, false, false, false, false, false, false, false, false, false, false, false, false, false, false, false, false, false, false, false, false, false, false, false, false, false, false, false, false, false, false, false, false, false, false, false, false, false, false, false, false, false, false]
abbrev s_law05_AvlHolds_R (t2 : AV) (h : Heap) : St := ⟨[.undef, .undef, t2, .undef, .undef, .undef, .undef, .undef, .undef, .undef, .undef, .undef, .undef, .undef, .undef, .undef, .undef, .undef, .undef, .undef, .undef, .undef, .undef, .undef, .undef, .undef, .undef, .undef, .undef, .undef, .undef, .undef, .undef, .undef, .undef, .undef, .undef, .undef, .undef, .undef, .undef, .undef, .undef, .undef, .undef, .undef, .undef, .undef, .undef, .undef, .undef, .undef, .undef, .undef, .undef, .undef, .undef, .undef, .undef, .undef, .undef, .undef, .undef, .undef, .undef, .undef, .undef, .undef, .undef, .undef, .undef, .undef, .undef, .undef, .undef, .undef, .undef, .undef, .undef, .undef, .undef, .undef, .undef, .undef, .undef, .undef, .undef, .undef, .undef, .undef, .undef, .undef, .undef, .undef, .undef, .undef, .undef, .undef, .undef, .undef, .undef, .undef, .undef, .undef, .undef, .undef, .undef, .undef, .undef, .undef, .undef, .undef, .undef, .undef, .undef, .undef, .undef, .undef, .undef, .undef, .undef, .undef, .undef, .undef, .undef, .undef, .undef, .undef, .undef, .undef, .undef, .undef, .undef, .undef, .undef, .undef, .undef, .undef, .undef, .undef, .undef, .undef, .undef, .undef, .undef, .undef, .undef, .undef, .undef, .undef, .undef, .undef, .undef, .undef], h⟩
abbrev s_law05_AvlHolds_K1 (t0 t3 t4 t5 t6 t7 t8 t9 t10 : AV) (h : Heap) : St := ⟨[t0, .undef, .undef, t3, t4, t5, t6, t7, t8, t9, t10, .undef, .undef, .undef, .undef, .undef, .undef, .undef, .undef, .undef, .undef, .undef, .undef, .undef, .undef, .undef, .undef, .undef, .undef, .undef, .undef, .undef, .undef, .undef, .undef, .undef, .undef, .undef, .undef, .undef, .undef, .undef, .undef, .undef, .undef, .undef, .undef, .undef, .undef, .undef, .undef, .undef, .undef, .undef, .undef, .undef, .undef, .undef, .undef, .undef, .undef, .undef, .undef, .undef, .undef, .undef, .undef, .undef, .undef, .undef, .undef, .undef, .undef, .undef, .undef, .undef, .undef, .undef, .undef, .undef, .undef, .undef, .undef, .undef, .undef, .undef, .undef, .undef, .undef, .undef, .undef, .undef, .undef, .undef, .undef, .undef, .undef, .undef, .undef, .undef, .undef, .undef, .undef, .undef, .undef, .undef, .undef, .undef, .undef, .undef, .undef, .undef, .undef, .undef, .undef, .undef, .undef, .undef, .undef, .undef, .undef, .undef, .undef, .undef, .undef, .undef, .undef, .undef, .undef, .undef, .undef, .undef, .undef, .undef, .undef, .undef, .undef, .undef, .undef, .undef, .undef, .undef, .undef, .undef, .undef, .undef, .undef, .undef, .undef, .undef, .undef, .undef, .undef, .undef], h⟩
def i_law05_AvlHolds_b1 : IR :=
  (.seq
   (.seq
    (.reg [] [
      ⟨(some 46), .mv (.t 10), none, []⟩,
      ⟨(some 47), .cn (.t 5), none, []⟩,
      ⟨(some 48), .len false (.t 47), none, []⟩,
      ⟨(some 49), .bin .plain .lss (.t 46) (.t 48), none, []⟩])
    (.cond (.t 49)
     .skip
     (.exit 2 i_law05_AvlHolds_j2)))
   (.seq
    (.block 3 i_law05_AvlHolds_j3
     (.seq
      (.reg [] [
        ⟨(some 52), .cn (.t 5), none, []⟩,
        ⟨(some 53), .mv (.t 10), none, []⟩,
        ⟨(some 54), .ia 2 (.t 52) (.t 53), none, []⟩,
        ⟨(some 55), .fa 0 (.t 54), none, []⟩,
        ⟨(some 56), .load false 1 (.t 55), none, []⟩,
        ⟨(some 57), .b2s (.t 56), none, []⟩,
        ⟨(some 58), .fa 0 (.t 7), none, []⟩,
        ⟨(some 59), .load false 1 (.t 58), none, []⟩,
        ⟨(some 60), .b2s (.t 59), none, []⟩,
        ⟨(some 61), .bin .plain .eql (.t 57) (.t 60), none, []⟩])
      (.cond (.t 61)
       (.reg [] [
         ⟨(some 9), .mv (.k (.bool true)), none, []⟩])
       (.reg [] [
         ⟨(some 62), .mv (.t 8), none, []⟩,
         ⟨(some 63), .cn (.t 5), none, []⟩,
         ⟨(some 64), .mv (.t 10), none, []⟩,
         ⟨(some 65), .ia 2 (.t 63) (.t 64), none, []⟩,
         ⟨(some 66), .load true 2 (.t 65), none, []⟩,
         ⟨(some 67), .litd 2 1 [(.slice none 0 0), (.slice none 0 0)] [(0, (.t 66))], none, []⟩,
         ⟨(some 68), .app 2 ty_api_Pair 2 48 (.t 62) (.t 67), none, []⟩,
         ⟨(some 8), .mv (.t 68), none, []⟩]))))
    (.reg [] [
      ⟨(some 50), .mv (.t 10), none, []⟩,
      ⟨(some 51), .bin .plain .add (.t 50) (.k (.int .i64 1)), none, []⟩,
      ⟨(some 10), .mv (.t 51), none, []⟩])))

abbrev s_law05_AvlHolds_J2 (t0 t3 t4 t6 t7 t8 t9 : AV) (h : Heap) : St := ⟨[t0, .undef, .undef, t3, t4, .undef, t6, t7, t8, t9, .undef, .undef, .undef, .undef, .undef, .undef, .undef, .undef, .undef, .undef, .undef, .undef, .undef, .undef, .undef, .undef, .undef, .undef, .undef, .undef, .undef, .undef, .undef, .undef, .undef, .undef, .undef, .undef, .undef, .undef, .undef, .undef, .undef, .undef, .undef, .undef, .undef, .undef, .undef, .undef, .undef, .undef, .undef, .undef, .undef, .undef, .undef, .undef, .undef, .undef, .undef, .undef, .undef, .undef, .undef, .undef, .undef, .undef, .undef, .undef, .undef, .undef, .undef, .undef, .undef, .undef, .undef, .undef, .undef, .undef, .undef, .undef, .undef, .undef, .undef, .undef, .undef, .undef, .undef, .undef, .undef, .undef, .undef, .undef, .undef, .undef, .undef, .undef, .undef, .undef, .undef, .undef, .undef, .undef, .undef, .undef, .undef, .undef, .undef, .undef, .undef, .undef, .undef, .undef, .undef, .undef, .undef, .undef, .undef, .undef, .undef, .undef, .undef, .undef, .undef, .undef, .undef, .undef, .undef, .undef, .undef, .undef, .undef, .undef, .undef, .undef, .undef, .undef, .undef, .undef, .undef, .undef, .undef, .undef, .undef, .undef, .undef, .undef, .undef, .undef, .undef, .undef, .undef, .undef], h⟩
abbrev s_law05_AvlHolds_J1 (t0 t3 t4 t5 t6 : AV) (h : Heap) : St := ⟨[t0, .undef, .undef, t3, t4, t5, t6, .undef, .undef, .undef, .undef, .undef, .undef, .undef, .undef, .undef, .undef, .undef, .undef, .undef, .undef, .undef, .undef, .undef, .undef, .undef, .undef, .undef, .undef, .undef, .undef, .undef, .undef, .undef, .undef, .undef, .undef, .undef, .undef, .undef, .undef, .undef, .undef, .undef, .undef, .undef, .undef, .undef, .undef, .undef, .undef, .undef, .undef, .undef, .undef, .undef, .undef, .undef, .undef, .undef, .undef, .undef, .undef, .undef, .undef, .undef, .undef, .undef, .undef, .undef, .undef, .undef, .undef, .undef, .undef, .undef, .undef, .undef, .undef, .undef, .undef, .undef, .undef, .undef, .undef, .undef, .undef, .undef, .undef, .undef, .undef, .undef, .undef, .undef, .undef, .undef, .undef, .undef, .undef, .undef, .undef, .undef, .undef, .undef, .undef, .undef, .undef, .undef, .undef, .undef, .undef, .undef, .undef, .undef, .undef, .undef, .undef, .undef, .undef, .undef, .undef, .undef, .undef, .undef, .undef, .undef, .undef, .undef, .undef, .undef, .undef, .undef, .undef, .undef, .undef, .undef, .undef, .undef, .undef, .undef, .undef, .undef, .undef, .undef, .undef, .undef, .undef, .undef, .undef, .undef, .undef, .undef, .undef, .undef], h⟩
abbrev s_law05_AvlHolds_K0 (t0 t3 t4 t5 t6 : AV) (h : Heap) : St := ⟨[t0, .undef, .undef, t3, t4, t5, t6, .undef, .undef, .undef, .undef, .undef, .undef, .undef, .undef, .undef, .undef, .undef, .undef, .undef, .undef, .undef, .undef, .undef, .undef, .undef, .undef, .undef, .undef, .undef, .undef, .undef, .undef, .undef, .undef, .undef, .undef, .undef, .undef, .undef, .undef, .undef, .undef, .undef, .undef, .undef, .undef, .undef, .undef, .undef, .undef, .undef, .undef, .undef, .undef, .undef, .undef, .undef, .undef, .undef, .undef, .undef, .undef, .undef, .undef, .undef, .undef, .undef, .undef, .undef, .undef, .undef, .undef, .undef, .undef, .undef, .undef, .undef, .undef, .undef, .undef, .undef, .undef, .undef, .undef, .undef, .undef, .undef, .undef, .undef, .undef, .undef, .undef, .undef, .undef, .undef, .undef, .undef, .undef, .undef, .undef, .undef, .undef, .undef, .undef, .undef, .undef, .undef, .undef, .undef, .undef, .undef, .undef, .undef, .undef, .undef, .undef, .undef, .undef, .undef, .undef, .undef, .undef, .undef, .undef, .undef, .undef, .undef, .undef, .undef, .undef, .undef, .undef, .undef, .undef, .undef, .undef, .undef, .undef, .undef, .undef, .undef, .undef, .undef, .undef, .undef, .undef, .undef, .undef, .undef, .undef, .undef, .undef, .undef], h⟩
def i_law05_AvlHolds_b0 : IR :=
  (.seq
   (.seq
    (.reg [] [
      ⟨(some 22), .mv (.t 6), none, []⟩,
      ⟨(some 23), .cn (.t 0), none, []⟩,
      ⟨(some 24), .len false (.t 23), none, []⟩,
      ⟨(some 25), .bin .plain .lss (.t 22) (.t 24), none, []⟩,
      ⟨(some 26), .mv (.t 25), none, []⟩,
      ⟨(some 27), .mv (.t 6), (some (26, true)), []⟩,
      ⟨(some 28), .bin .plain .lss (.t 27) (.k (.int .i64 40)), (some (26, true)), []⟩,
      ⟨(some 29), .pick (.t 26) (.t 28) (.k (.bool false)), none, []⟩])
    (.cond (.t 29)
     .skip
     (.exit 0 i_law05_AvlHolds_j0)))
   (.seq
    (.block 1 i_law05_AvlHolds_j1
     (.seq
      (.reg [] [
        ⟨(some 32), .cn (.t 0), none, []⟩,
        ⟨(some 33), .mv (.t 6), none, []⟩,
        ⟨(some 34), .ia 3 (.t 32) (.t 33), none, []⟩,
        ⟨(some 35), .load true 3 (.t 34), none, []⟩,
        ⟨(some 7), .new 1 [(.slice none 0 0), (.slice none 0 0), (.bool false)], none, []⟩,
        ⟨none, .store 3 (.t 7) (.t 35), none, []⟩])
      (.seq
       (.seq
        (.reg [] [
          ⟨(some 36), .fa 0 (.t 7), none, []⟩,
          ⟨(some 37), .load false 1 (.t 36), none, []⟩,
          ⟨(some 38), .len false (.t 37), none, []⟩,
          ⟨(some 39), .bin .plain .gtr (.t 38) (.k (.int .i64 80)), none, []⟩,
          ⟨(some 40), .mv (.t 39), none, []⟩,
          ⟨(some 41), .fa 1 (.t 7), (some (40, false)), []⟩,
          ⟨(some 42), .load false 1 (.t 41), (some (40, false)), []⟩,
          ⟨(some 43), .len false (.t 42), (some (40, false)), []⟩,
          ⟨(some 44), .bin .plain .gtr (.t 43) (.k (.int .i64 1024)), (some (40, false)), []⟩,
          ⟨(some 45), .pick (.t 40) (.k (.bool true)) (.t 44), none, []⟩])
        (.cond (.t 45)
         (.exit 1 i_law05_AvlHolds_j1)
         .skip))
       (.seq
        (.reg [] [
          ⟨(some 8), .mv (.k (.slice none 0 0)), none, []⟩])
        (.seq
         (.reg [] [
           ⟨(some 9), .mv (.k (.bool false)), none, []⟩])
         (.seq
          (.seq
           (.reg [] [
             ⟨(some 10), .mv (.k (.int .i64 0)), none, []⟩])
           (.block 2 i_law05_AvlHolds_j2
            (.loop i_law05_AvlHolds_k1 i_law05_AvlHolds_b1)))
          (.seq
           (.seq
            (.reg [] [
              ⟨(some 69), .fa 2 (.t 7), none, []⟩,
              ⟨(some 70), .load false 1 (.t 69), none, []⟩])
            (.cond (.t 70)
             (.seq
              (.reg [] [
                ⟨(some 72), .load true 5 (.t 4), none, []⟩,
                ⟨(some 73), .fa 0 (.t 7), none, []⟩,
                ⟨(some 74), .load false 1 (.t 73), none, []⟩,
                ⟨(some 75), .qcall n_avl_Delete [(.t 72), (.t 74)] [], none, []⟩,
                ⟨(some 71), .mv (.t 75), none, []⟩,
                ⟨(some 76), .ext 0 (.t 71), none, []⟩,
                ⟨(some 77), .ext 1 (.t 71), none, []⟩,
                ⟨(some 78), .ext 2 (.t 71), none, []⟩,
                ⟨(some 11), .new 3 [(.int .i64 0), (.slice none 0 0), (.slice none 0 0), (.slice none 0 0), (.slice none 0 0)], none, []⟩,
                ⟨none, .store 5 (.t 11) (.t 76), none, []⟩,
                ⟨(some 12), .mv (.t 77), none, []⟩,
                ⟨(some 13), .mv (.t 78), none, []⟩])
              (.seq
               (.seq
                (.reg [] [
                  ⟨(some 79), .mv (.t 13), none, []⟩,
                  ⟨(some 80), .bin (.iface ty_api_Code true) .neq (.t 79) (.k .nilIface), none, []⟩,
                  ⟨(some 81), .mv (.t 80), none, []⟩,
                  ⟨(some 82), .mv (.t 12), (some (81, false)), []⟩,
                  ⟨(some 83), .mv (.t 9), (some (81, false)), []⟩,
                  ⟨(some 84), .bin .bool .neq (.t 82) (.t 83), (some (81, false)), []⟩,
                  ⟨(some 85), .pick (.t 81) (.k (.bool true)) (.t 84), none, []⟩])
                (.cond (.t 85)
                 (.seq
                  (.reg [] [
                    ⟨(some 2), .mv (.k (.bool false)), none, []⟩])
                  (.ret i_law05_AvlHolds_r))
                 .skip))
               (.reg [] [
                 ⟨(some 86), .load true 5 (.t 11), none, []⟩,
                 ⟨none, .store 5 (.t 4) (.t 86), none, []⟩])))
             (.seq
              (.reg [] [
                ⟨(some 88), .load true 5 (.t 4), none, []⟩,
                ⟨(some 89), .fa 0 (.t 7), none, []⟩,
                ⟨(some 90), .load false 1 (.t 89), none, []⟩,
                ⟨(some 91), .fa 1 (.t 7), none, []⟩,
                ⟨(some 92), .load false 1 (.t 91), none, []⟩,
                ⟨(some 93), .qcall n_avl_Put [(.t 88), (.t 90), (.t 92)] [], none, []⟩,
                ⟨(some 87), .mv (.t 93), none, []⟩,
                ⟨(some 94), .ext 0 (.t 87), none, []⟩,
                ⟨(some 95), .ext 1 (.t 87), none, []⟩,
                ⟨(some 14), .new 4 [(.int .i64 0), (.slice none 0 0), (.slice none 0 0), (.slice none 0 0), (.slice none 0 0)], none, []⟩,
                ⟨none, .store 5 (.t 14) (.t 94), none, []⟩,
                ⟨(some 15), .mv (.t 95), none, []⟩])
              (.seq
               (.seq
                (.reg [] [
                  ⟨(some 96), .mv (.t 15), none, []⟩,
                  ⟨(some 97), .bin (.iface ty_api_Code true) .neq (.t 96) (.k .nilIface), none, []⟩])
                (.cond (.t 97)
                 (.seq
                  (.reg [] [
                    ⟨(some 2), .mv (.k (.bool false)), none, []⟩])
                  (.ret i_law05_AvlHolds_r))
                 .skip))
               (.seq
                (.reg [] [
                  ⟨(some 98), .load true 5 (.t 14), none, []⟩,
                  ⟨none, .store 5 (.t 4) (.t 98), none, []⟩])
                (.reg [] [
                  ⟨(some 99), .mv (.t 8), none, []⟩,
                  ⟨(some 100), .fa 0 (.t 7), none, []⟩,
                  ⟨(some 101), .load false 1 (.t 100), none, []⟩,
                  ⟨(some 102), .fa 1 (.t 7), none, []⟩,
                  ⟨(some 103), .load false 1 (.t 102), none, []⟩,
                  ⟨(some 104), .build [(.slice none 0 0), (.slice none 0 0)] [(0, 1, (.t 101)), (1, 1, (.t 103))], none, []⟩,
                  ⟨(some 105), .litd 2 1 [(.slice none 0 0), (.slice none 0 0)] [(0, (.t 104))], none, []⟩,
                  ⟨(some 106), .app 2 ty_api_Pair 2 48 (.t 99) (.t 105), none, []⟩,
                  ⟨(some 8), .mv (.t 106), none, []⟩]))))))
           (.reg [] [
             ⟨(some 107), .cn (.t 8), none, [8]⟩,
             ⟨(some 5), .cn (.t 107), none, [107]⟩]))))))))
    (.reg [] [
      ⟨(some 30), .mv (.t 6), none, []⟩,
      ⟨(some 31), .bin .plain .add (.t 30) (.k (.int .i64 1)), none, []⟩,
      ⟨(some 6), .mv (.t 31), none, []⟩])))

abbrev s_law05_AvlHolds_J0 (t3 t4 t5 : AV) (h : Heap) : St := ⟨[.undef, .undef, .undef, t3, t4, t5, .undef, .undef, .undef, .undef, .undef, .undef, .undef, .undef, .undef, .undef, .undef, .undef, .undef, .undef, .undef, .undef, .undef, .undef, .undef, .undef, .undef, .undef, .undef, .undef, .undef, .undef, .undef, .undef, .undef, .undef, .undef, .undef, .undef, .undef, .undef, .undef, .undef, .undef, .undef, .undef, .undef, .undef, .undef, .undef, .undef, .undef, .undef, .undef, .undef, .undef, .undef, .undef, .undef, .undef, .undef, .undef, .undef, .undef, .undef, .undef, .undef, .undef, .undef, .undef, .undef, .undef, .undef, .undef, .undef, .undef, .undef, .undef, .undef, .undef, .undef, .undef, .undef, .undef, .undef, .undef, .undef, .undef, .undef, .undef, .undef, .undef, .undef, .undef, .undef, .undef, .undef, .undef, .undef, .undef, .undef, .undef, .undef, .undef, .undef, .undef, .undef, .undef, .undef, .undef, .undef, .undef, .undef, .undef, .undef, .undef, .undef, .undef, .undef, .undef, .undef, .undef, .undef, .undef, .undef, .undef, .undef, .undef, .undef, .undef, .undef, .undef, .undef, .undef, .undef, .undef, .undef, .undef, .undef, .undef, .undef, .undef, .undef, .undef, .undef, .undef, .undef, .undef, .undef, .undef, .undef, .undef, .undef, .undef], h⟩
abbrev s_law05_AvlHolds_K2 (t3 t4 t5 t16 : AV) (h : Heap) : St := ⟨[.undef, .undef, .undef, t3, t4, t5, .undef, .undef, .undef, .undef, .undef, .undef, .undef, .undef, .undef, .undef, t16, .undef, .undef, .undef, .undef, .undef, .undef, .undef, .undef, .undef, .undef, .undef, .undef, .undef, .undef, .undef, .undef, .undef, .undef, .undef, .undef, .undef, .undef, .undef, .undef, .undef, .undef, .undef, .undef, .undef, .undef, .undef, .undef, .undef, .undef, .undef, .undef, .undef, .undef, .undef, .undef, .undef, .undef, .undef, .undef, .undef, .undef, .undef, .undef, .undef, .undef, .undef, .undef, .undef, .undef, .undef, .undef, .undef, .undef, .undef, .undef, .undef, .undef, .undef, .undef, .undef, .undef, .undef, .undef, .undef, .undef, .undef, .undef, .undef, .undef, .undef, .undef, .undef, .undef, .undef, .undef, .undef, .undef, .undef, .undef, .undef, .undef, .undef, .undef, .undef, .undef, .undef, .undef, .undef, .undef, .undef, .undef, .undef, .undef, .undef, .undef, .undef, .undef, .undef, .undef, .undef, .undef, .undef, .undef, .undef, .undef, .undef, .undef, .undef, .undef, .undef, .undef, .undef, .undef, .undef, .undef, .undef, .undef, .undef, .undef, .undef, .undef, .undef, .undef, .undef, .undef, .undef, .undef, .undef, .undef, .undef, .undef, .undef], h⟩
def i_law05_AvlHolds_b2 : IR :=
  (.seq
   (.seq
    (.reg [] [
      ⟨(some 119), .mv (.t 16), none, []⟩,
      ⟨(some 120), .cn (.t 5), none, []⟩,
      ⟨(some 121), .len false (.t 120), none, []⟩,
      ⟨(some 122), .bin .plain .lss (.t 119) (.t 121), none, []⟩])
    (.cond (.t 122)
     .skip
     (.exit 4 i_law05_AvlHolds_j4)))
   (.seq
    (.block 5 i_law05_AvlHolds_j5
     (.seq
      (.reg [] [
        ⟨(some 126), .load true 5 (.t 4), none, []⟩,
        ⟨(some 127), .cn (.t 5), none, []⟩,
        ⟨(some 128), .mv (.t 16), none, []⟩,
        ⟨(some 129), .ia 2 (.t 127) (.t 128), none, []⟩,
        ⟨(some 130), .fa 0 (.t 129), none, []⟩,
        ⟨(some 131), .load false 1 (.t 130), none, []⟩,
        ⟨(some 132), .qcall n_avl_Get [(.t 126), (.t 131)] [], none, []⟩,
        ⟨(some 125), .mv (.t 132), none, []⟩,
        ⟨(some 133), .ext 0 (.t 125), none, []⟩,
        ⟨(some 134), .ext 1 (.t 125), none, []⟩,
        ⟨(some 135), .ext 2 (.t 125), none, []⟩,
        ⟨(some 17), .cn (.t 133), none, []⟩,
        ⟨(some 18), .mv (.t 134), none, []⟩,
        ⟨(some 19), .mv (.t 135), none, []⟩])
      (.seq
       (.reg [] [
         ⟨(some 136), .mv (.t 19), none, []⟩,
         ⟨(some 137), .bin (.iface ty_api_Code true) .neq (.t 136) (.k .nilIface), none, []⟩,
         ⟨(some 138), .mv (.t 137), none, []⟩,
         ⟨(some 139), .mv (.t 18), (some (138, false)), []⟩,
         ⟨(some 140), .un .not (.t 139), (some (138, false)), []⟩,
         ⟨(some 141), .pick (.t 138) (.k (.bool true)) (.t 140), none, []⟩,
         ⟨(some 142), .mv (.t 141), none, []⟩,
         ⟨(some 143), .cn (.t 17), (some (142, false)), []⟩,
         ⟨(some 144), .b2s (.t 143), (some (142, false)), []⟩,
         ⟨(some 145), .cn (.t 5), (some (142, false)), []⟩,
         ⟨(some 146), .mv (.t 16), (some (142, false)), []⟩,
         ⟨(some 147), .ia 2 (.t 145) (.t 146), (some (142, false)), []⟩,
         ⟨(some 148), .fa 1 (.t 147), (some (142, false)), []⟩,
         ⟨(some 149), .load false 1 (.t 148), (some (142, false)), []⟩,
         ⟨(some 150), .b2s (.t 149), (some (142, false)), []⟩,
         ⟨(some 151), .bin .plain .neq (.t 144) (.t 150), (some (142, false)), []⟩,
         ⟨(some 152), .pick (.t 142) (.k (.bool true)) (.t 151), none, []⟩])
       (.cond (.t 152)
        (.seq
         (.reg [] [
           ⟨(some 2), .mv (.k (.bool false)), none, []⟩])
         (.ret i_law05_AvlHolds_r))
        .skip))))
    (.reg [] [
      ⟨(some 123), .mv (.t 16), none, []⟩,
      ⟨(some 124), .bin .plain .add (.t 123) (.k (.int .i64 1)), none, []⟩,
      ⟨(some 16), .mv (.t 124), none, []⟩])))

abbrev s_law05_AvlHolds_J4 (t3 : AV) (h : Heap) : St := ⟨[.undef, .undef, .undef, t3, .undef, .undef, .undef, .undef, .undef, .undef, .undef, .undef, .undef, .undef, .undef, .undef, .undef, .undef, .undef, .undef, .undef, .undef, .undef, .undef, .undef, .undef, .undef, .undef, .undef, .undef, .undef, .undef, .undef, .undef, .undef, .undef, .undef, .undef, .undef, .undef, .undef, .undef, .undef, .undef, .undef, .undef, .undef, .undef, .undef, .undef, .undef, .undef, .undef, .undef, .undef, .undef, .undef, .undef, .undef, .undef, .undef, .undef, .undef, .undef, .undef, .undef, .undef, .undef, .undef, .undef, .undef, .undef, .undef, .undef, .undef, .undef, .undef, .undef, .undef, .undef, .undef, .undef, .undef, .undef, .undef, .undef, .undef, .undef, .undef, .undef, .undef, .undef, .undef, .undef, .undef, .undef, .undef, .undef, .undef, .undef, .undef, .undef, .undef, .undef, .undef, .undef, .undef, .undef, .undef, .undef, .undef, .undef, .undef, .undef, .undef, .undef, .undef, .undef, .undef, .undef, .undef, .undef, .undef, .undef, .undef, .undef, .undef, .undef, .undef, .undef, .undef, .undef, .undef, .undef, .undef, .undef, .undef, .undef, .undef, .undef, .undef, .undef, .undef, .undef, .undef, .undef, .undef, .undef, .undef, .undef, .undef, .undef, .undef, .undef], h⟩
/-- heartwood/heartwoodlaw05.AvlHolds -/
def i_law05_AvlHolds : Ev.Fn := ⟨1, 154, 5,
  (.seq
   (.reg [] [
     ⟨(some 2), .mv (.k (.bool false)), none, []⟩])
   (.seq
    (.reg [] [
      ⟨(some 20), .qcall n_law05_up [] [], none, []⟩,
      ⟨(some 3), .mv (.t 20), none, []⟩])
    (.seq
     (.reg [] [
       ⟨(some 21), .build [(.int .i64 0), (.slice none 0 0), (.slice none 0 0), (.slice none 0 0), (.slice none 0 0)] [], none, []⟩,
       ⟨(some 4), .new 0 [(.int .i64 0), (.slice none 0 0), (.slice none 0 0), (.slice none 0 0), (.slice none 0 0)], none, []⟩,
       ⟨none, .store 5 (.t 4) (.t 21), none, []⟩])
     (.seq
      (.reg [] [
        ⟨(some 5), .cn (.k (.slice none 0 0)), none, []⟩])
      (.seq
       (.seq
        (.reg [] [
          ⟨(some 6), .mv (.k (.int .i64 0)), none, []⟩])
        (.block 0 i_law05_AvlHolds_j0
         (.loop i_law05_AvlHolds_k0 i_law05_AvlHolds_b0)))
       (.seq
        (.seq
         (.reg [] [
           ⟨(some 108), .load true 5 (.t 4), none, []⟩,
           ⟨(some 109), .qcall n_avl_Is [(.t 108)] [], none, []⟩,
           ⟨(some 110), .un .not (.t 109), none, []⟩,
           ⟨(some 111), .mv (.t 110), none, []⟩,
           ⟨(some 112), .load true 5 (.t 4), (some (111, false)), []⟩,
           ⟨(some 113), .qcall n_ref04_List [(.t 112)] [], (some (111, false)), []⟩,
           ⟨(some 114), .len false (.t 113), (some (111, false)), []⟩,
           ⟨(some 115), .cn (.t 5), (some (111, false)), []⟩,
           ⟨(some 116), .len false (.t 115), (some (111, false)), []⟩,
           ⟨(some 117), .bin .plain .neq (.t 114) (.t 116), (some (111, false)), []⟩,
           ⟨(some 118), .pick (.t 111) (.k (.bool true)) (.t 117), none, []⟩])
         (.cond (.t 118)
          (.seq
           (.reg [] [
             ⟨(some 2), .mv (.k (.bool false)), none, []⟩])
           (.ret i_law05_AvlHolds_r))
          .skip))
        (.seq
         (.seq
          (.reg [] [
            ⟨(some 16), .mv (.k (.int .i64 0)), none, []⟩])
          (.block 4 i_law05_AvlHolds_j4
           (.loop i_law05_AvlHolds_k2 i_law05_AvlHolds_b2)))
         (.seq
          (.reg [] [
            ⟨(some 153), .mv (.t 3), none, []⟩,
            ⟨(some 2), .mv (.t 153), none, []⟩])
          (.ret i_law05_AvlHolds_r))))))))),
  [.tmp 2], [], false, []⟩

def i_law05_up_r : List Bool := [true, false, false, false, false, false, false, false, false, false, false, false, false, false, false, false, false, false, false, false, false, false, false, false, false, false, false, false, false, false, false, false, false, false, false, false, false, false, false, false, false, false, false, false, false, false, false, false, false, false, false, false, false, false, false, false, false, false, false, false, false, false, false, false, false, false, false, false, false]
/-- heartwood/heartwoodlaw05.up -/
def i_law05_up : Ev.Fn := ⟨0, 69, 8,
  (.seq
   (.reg [] [
     ⟨(some 0), .mv (.k (.bool false)), none, []⟩])
   (.seq
    (.reg [] [
      ⟨(some 11), .build [(.int .i64 0), (.slice none 0 0), (.slice none 0 0), (.slice none 0 0), (.slice none 0 0)] [], none, []⟩,
      ⟨(some 12), .lit 0 ty_uint8 1 1 [(.int .u8 0)] [(0, (.k (.int .u8 97)))], none, []⟩,
      ⟨(some 13), .markb (.t 12), none, []⟩,
      ⟨(some 14), .lit 1 ty_uint8 1 1 [(.int .u8 0)] [(0, (.k (.int .u8 49)))], none, []⟩,
      ⟨(some 15), .markb (.t 14), none, []⟩,
      ⟨(some 16), .qcall n_avl_Put [(.t 11), (.t 13), (.t 15)] [], none, []⟩,
      ⟨(some 10), .mv (.t 16), none, []⟩,
      ⟨(some 17), .ext 0 (.t 10), none, []⟩,
      ⟨(some 18), .ext 1 (.t 10), none, []⟩,
      ⟨(some 1), .new 2 [(.int .i64 0), (.slice none 0 0), (.slice none 0 0), (.slice none 0 0), (.slice none 0 0)], none, []⟩,
      ⟨none, .store 5 (.t 1) (.t 17), none, []⟩,
      ⟨(some 2), .mv (.t 18), none, []⟩])
    (.seq
     (.reg [] [
       ⟨(some 20), .load true 5 (.t 1), none, []⟩,
       ⟨(some 21), .lit 3 ty_uint8 1 1 [(.int .u8 0)] [(0, (.k (.int .u8 98)))], none, []⟩,
       ⟨(some 22), .markb (.t 21), none, []⟩,
       ⟨(some 23), .qcall n_avl_Put [(.t 20), (.t 22), (.k (.slice none 0 0))] [], none, []⟩,
       ⟨(some 19), .mv (.t 23), none, []⟩,
       ⟨(some 24), .ext 0 (.t 19), none, []⟩,
       ⟨(some 25), .ext 1 (.t 19), none, []⟩,
       ⟨(some 3), .new 4 [(.int .i64 0), (.slice none 0 0), (.slice none 0 0), (.slice none 0 0), (.slice none 0 0)], none, []⟩,
       ⟨none, .store 5 (.t 3) (.t 24), none, []⟩,
       ⟨(some 4), .mv (.t 25), none, []⟩])
     (.seq
      (.reg [] [
        ⟨(some 27), .load true 5 (.t 3), none, []⟩,
        ⟨(some 28), .lit 5 ty_uint8 1 1 [(.int .u8 0)] [(0, (.k (.int .u8 99)))], none, []⟩,
        ⟨(some 29), .markb (.t 28), none, []⟩,
        ⟨(some 30), .qcall n_avl_Put [(.t 27), (.t 29), (.k (.slice none 0 0))] [], none, []⟩,
        ⟨(some 26), .mv (.t 30), none, []⟩,
        ⟨(some 31), .ext 0 (.t 26), none, []⟩,
        ⟨(some 32), .ext 1 (.t 26), none, []⟩,
        ⟨(some 5), .new 6 [(.int .i64 0), (.slice none 0 0), (.slice none 0 0), (.slice none 0 0), (.slice none 0 0)], none, []⟩,
        ⟨none, .store 5 (.t 5) (.t 31), none, []⟩,
        ⟨(some 6), .mv (.t 32), none, []⟩])
      (.seq
       (.reg [] [
         ⟨(some 34), .load true 5 (.t 5), none, []⟩,
         ⟨(some 35), .lit 7 ty_uint8 1 1 [(.int .u8 0)] [(0, (.k (.int .u8 97)))], none, []⟩,
         ⟨(some 36), .markb (.t 35), none, []⟩,
         ⟨(some 37), .qcall n_avl_Get [(.t 34), (.t 36)] [], none, []⟩,
         ⟨(some 33), .mv (.t 37), none, []⟩,
         ⟨(some 38), .ext 0 (.t 33), none, []⟩,
         ⟨(some 39), .ext 1 (.t 33), none, []⟩,
         ⟨(some 40), .ext 2 (.t 33), none, []⟩,
         ⟨(some 7), .cn (.t 38), none, []⟩,
         ⟨(some 8), .mv (.t 39), none, []⟩,
         ⟨(some 9), .mv (.t 40), none, []⟩])
       (.seq
        (.reg [] [
          ⟨(some 41), .mv (.t 2), none, []⟩,
          ⟨(some 42), .bin (.iface ty_api_Code true) .eql (.t 41) (.k .nilIface), none, []⟩,
          ⟨(some 43), .mv (.t 42), none, []⟩,
          ⟨(some 44), .mv (.t 4), (some (43, true)), []⟩,
          ⟨(some 45), .bin (.iface ty_api_Code true) .eql (.t 44) (.k .nilIface), (some (43, true)), []⟩,
          ⟨(some 46), .pick (.t 43) (.t 45) (.k (.bool false)), none, []⟩,
          ⟨(some 47), .mv (.t 46), none, []⟩,
          ⟨(some 48), .mv (.t 6), (some (47, true)), []⟩,
          ⟨(some 49), .bin (.iface ty_api_Code true) .eql (.t 48) (.k .nilIface), (some (47, true)), []⟩,
          ⟨(some 50), .pick (.t 47) (.t 49) (.k (.bool false)), none, []⟩,
          ⟨(some 51), .mv (.t 50), none, []⟩,
          ⟨(some 52), .mv (.t 9), (some (51, true)), []⟩,
          ⟨(some 53), .bin (.iface ty_api_Code true) .eql (.t 52) (.k .nilIface), (some (51, true)), []⟩,
          ⟨(some 54), .pick (.t 51) (.t 53) (.k (.bool false)), none, []⟩,
          ⟨(some 55), .mv (.t 54), none, []⟩,
          ⟨(some 56), .mv (.t 8), (some (55, true)), []⟩,
          ⟨(some 57), .pick (.t 55) (.t 56) (.k (.bool false)), none, []⟩,
          ⟨(some 58), .mv (.t 57), none, []⟩,
          ⟨(some 59), .cn (.t 7), (some (58, true)), []⟩,
          ⟨(some 60), .b2s (.t 59), (some (58, true)), []⟩,
          ⟨(some 61), .bin .plain .eql (.t 60) (.k (.string ⟨#[49]⟩)), (some (58, true)), []⟩,
          ⟨(some 62), .pick (.t 58) (.t 61) (.k (.bool false)), none, []⟩,
          ⟨(some 63), .mv (.t 62), none, []⟩,
          ⟨(some 64), .fa 1 (.t 5), (some (63, true)), []⟩,
          ⟨(some 65), .load false 1 (.t 64), (some (63, true)), []⟩,
          ⟨(some 66), .b2s (.t 65), (some (63, true)), []⟩,
          ⟨(some 67), .bin .plain .eql (.t 66) (.k (.string ⟨#[98]⟩)), (some (63, true)), []⟩,
          ⟨(some 68), .pick (.t 63) (.t 67) (.k (.bool false)), none, []⟩,
          ⟨(some 0), .mv (.t 68), none, []⟩])
        (.ret i_law05_up_r))))))),
  [.tmp 0], [], false, []⟩

def i_avl_Put_r : List Bool := [false, false, false, false, false, false, true, true, false, false, false, false, false, false, false, false, false, false, false, false, false, false, false]
/-- heartwood/avl.Put -/
def i_avl_Put : Ev.Fn := ⟨3, 23, 2,
  (.seq
   (.reg [] [
     ⟨(some 3), .box 0 5 (.t 0), none, []⟩,
     ⟨(some 6), .new 1 [(.int .i64 0), (.slice none 0 0), (.slice none 0 0), (.slice none 0 0), (.slice none 0 0)], none, []⟩,
     ⟨(some 7), .mv (.k .nilIface), none, []⟩])
   (.seq
    (.seq
     (.reg [] [
       ⟨(some 9), .load true 5 (.t 3), none, []⟩,
       ⟨(some 10), .cn (.t 1), none, []⟩,
       ⟨(some 11), .cn (.t 2), none, []⟩,
       ⟨(some 12), .qcall n_avl_asked [(.t 9), (.t 10), (.t 11)] [], none, []⟩,
       ⟨(some 8), .mv (.t 12), none, []⟩])
     (.seq
      (.reg [] [
        ⟨(some 13), .mv (.t 8), none, []⟩,
        ⟨(some 14), .bin (.iface ty_api_Code true) .neq (.t 13) (.k .nilIface), none, []⟩])
      (.cond (.t 14)
       (.seq
        (.reg [] [
          ⟨(some 15), .build [(.int .i64 0), (.slice none 0 0), (.slice none 0 0), (.slice none 0 0), (.slice none 0 0)] [], none, []⟩,
          ⟨(some 16), .mv (.t 8), none, []⟩,
          ⟨none, .store 5 (.t 6) (.t 15), none, []⟩,
          ⟨(some 7), .mv (.t 16), none, []⟩])
        (.ret i_avl_Put_r))
       .skip)))
    (.seq
     (.reg [] [
       ⟨(some 17), .load true 5 (.t 3), none, []⟩,
       ⟨(some 18), .cn (.t 1), none, []⟩,
       ⟨(some 19), .qcall n_slices_Clone_sl_byte_byte [(.t 18)] [], none, []⟩,
       ⟨(some 20), .cn (.t 2), none, []⟩,
       ⟨(some 21), .qcall n_slices_Clone_sl_byte_byte [(.t 20)] [], none, []⟩,
       ⟨(some 22), .qcall n_avl_put [(.t 17), (.t 19), (.t 21)] [], none, []⟩,
       ⟨none, .store 5 (.t 6) (.t 22), none, []⟩,
       ⟨(some 7), .mv (.k .nilIface), none, []⟩])
     (.ret i_avl_Put_r)))),
  [.cell 6 true 5, .tmp 7], [], false, []⟩

def i_avl_asked_r : List Bool := [false, false, false, false, false, false, true, false, false, false, false, false, false, false, false, false, false, false, false, false, false, false]
def i_avl_asked_j0 : List Bool := [false, false, false, false, false, false, false, false, false, false, false, false, false, false, false, false, false, false, false, false, false, false]
/-- heartwood/avl.asked -/
def i_avl_asked : Ev.Fn := ⟨3, 22, 1,
  (.seq
   (.reg [] [
     ⟨(some 3), .box 0 5 (.t 0), none, []⟩,
     ⟨(some 6), .mv (.k .nilIface), none, []⟩])
   (.seq
    (.block 0 i_avl_asked_j0
     (.seq
      (.reg [] [
        ⟨(some 8), .load true 5 (.t 3), none, []⟩,
        ⟨(some 9), .qcall n_avl_Is [(.t 8)] [], none, []⟩,
        ⟨(some 10), .un .not (.t 9), none, []⟩,
        ⟨(some 7), .mv (.t 10), none, []⟩])
      (.cond (.t 7)
       (.seq
        (.reg [] [
          ⟨(some 11), .mki ty_api_Code (.k (.int .i64 3)), none, []⟩,
          ⟨(some 6), .mv (.t 11), none, []⟩])
        (.ret i_avl_asked_r))
       (.seq
        (.reg [] [
          ⟨(some 13), .cn (.t 1), none, []⟩,
          ⟨(some 14), .len false (.t 13), none, []⟩,
          ⟨(some 15), .bin .plain .gtr (.t 14) (.k (.int .i64 80)), none, []⟩,
          ⟨(some 16), .mv (.t 15), none, []⟩,
          ⟨(some 17), .cn (.t 2), (some (16, false)), []⟩,
          ⟨(some 18), .len false (.t 17), (some (16, false)), []⟩,
          ⟨(some 19), .bin .plain .gtr (.t 18) (.k (.int .i64 1024)), (some (16, false)), []⟩,
          ⟨(some 20), .pick (.t 16) (.k (.bool true)) (.t 19), none, []⟩,
          ⟨(some 12), .mv (.t 20), none, []⟩])
        (.cond (.t 12)
         (.seq
          (.reg [] [
            ⟨(some 21), .mki ty_api_Code (.k (.int .i64 1)), none, []⟩,
            ⟨(some 6), .mv (.t 21), none, []⟩])
          (.ret i_avl_asked_r))
         .skip)))))
    (.seq
     (.reg [] [
       ⟨(some 6), .mv (.k .nilIface), none, []⟩])
     (.ret i_avl_asked_r)))),
  [.tmp 6], [], false, []⟩

def i_avl_Is_r : List Bool := [false, false, true, false, false, false, false, false, false, false, false, false, false, false, false, false, false, false, false, false, false, false, false, false, false, false, false, false, false, false, false, false, false, false, false, false, false]
def i_avl_Is_j1 : List Bool := [false, true, false, true, true, false, false, false, false, false, false, false, false, false, false, false, false, false, false, false, false, false, false, false, false, false, false, false, false, false, false, false, false, false, false, false, false]
def i_avl_Is_k0 : List Bool := [false, true, false, true, true, false, false, false, false, false, false, false, false, false, false, false, false, false, false, false, false, false, false, false, false, false, false, false, false, false, false, false, false, false, false, false, false]
def i_avl_Is_j0 : List Bool := [false, true, false, false, false, false, false, false, false, false, false, false, false, false, false, false, false, false, false, false, false, false, false, false, false, false, false, false, false, false, false, false, false, false, false, false, false]
abbrev s_avl_Is_R (t2 : AV) (h : Heap) : St := ⟨[.undef, .undef, t2, .undef, .undef, .undef, .undef, .undef, .undef, .undef, .undef, .undef, .undef, .undef, .undef, .undef, .undef, .undef, .undef, .undef, .undef, .undef, .undef, .undef, .undef, .undef, .undef, .undef, .undef, .undef, .undef, .undef, .undef, .undef, .undef, .undef, .undef], h⟩
abbrev s_avl_Is_K0 (t1 t3 t4 : AV) (h : Heap) : St := ⟨[.undef, t1, .undef, t3, t4, .undef, .undef, .undef, .undef, .undef, .undef, .undef, .undef, .undef, .undef, .undef, .undef, .undef, .undef, .undef, .undef, .undef, .undef, .undef, .undef, .undef, .undef, .undef, .undef, .undef, .undef, .undef, .undef, .undef, .undef, .undef, .undef], h⟩
def i_avl_Is_b0 : IR :=
  (.seq
   (.seq
    (.reg [] [
      ⟨(some 12), .mv (.t 4), none, []⟩,
      ⟨(some 13), .cn (.t 3), none, []⟩,
      ⟨(some 14), .len false (.t 13), none, []⟩,
      ⟨(some 15), .bin .plain .lss (.t 12) (.t 14), none, []⟩])
    (.cond (.t 15)
     .skip
     (.exit 0 i_avl_Is_j0)))
   (.seq
    (.block 1 i_avl_Is_j1
     (.seq
      (.reg [] [
        ⟨(some 18), .cn (.t 3), none, []⟩,
        ⟨(some 19), .mv (.t 4), none, []⟩,
        ⟨(some 20), .bin .plain .sub (.t 19) (.k (.int .i64 1)), none, []⟩,
        ⟨(some 21), .ia 5 (.t 18) (.t 20), none, []⟩,
        ⟨(some 22), .fa 1 (.t 21), none, []⟩,
        ⟨(some 23), .load false 1 (.t 22), none, []⟩,
        ⟨(some 24), .cn (.t 3), none, []⟩,
        ⟨(some 25), .mv (.t 4), none, []⟩,
        ⟨(some 26), .ia 5 (.t 24) (.t 25), none, []⟩,
        ⟨(some 27), .fa 1 (.t 26), none, []⟩,
        ⟨(some 28), .load false 1 (.t 27), none, []⟩,
        ⟨(some 29), .qcall n_bytes_Compare [(.t 23), (.t 28)] [], none, []⟩,
        ⟨(some 30), .bin .plain .geq (.t 29) (.k (.int .i64 0)), none, []⟩])
      (.cond (.t 30)
       (.seq
        (.reg [] [
          ⟨(some 2), .mv (.k (.bool false)), none, []⟩])
        (.ret i_avl_Is_r))
       .skip)))
    (.reg [] [
      ⟨(some 16), .mv (.t 4), none, []⟩,
      ⟨(some 17), .bin .plain .add (.t 16) (.k (.int .i64 1)), none, []⟩,
      ⟨(some 4), .mv (.t 17), none, []⟩])))

abbrev s_avl_Is_J0 (t1 : AV) (h : Heap) : St := ⟨[.undef, t1, .undef, .undef, .undef, .undef, .undef, .undef, .undef, .undef, .undef, .undef, .undef, .undef, .undef, .undef, .undef, .undef, .undef, .undef, .undef, .undef, .undef, .undef, .undef, .undef, .undef, .undef, .undef, .undef, .undef, .undef, .undef, .undef, .undef, .undef, .undef], h⟩
/-- heartwood/avl.Is -/
def i_avl_Is : Ev.Fn := ⟨1, 37, 1,
  (.seq
   (.reg [] [
     ⟨(some 1), .box 0 5 (.t 0), none, []⟩,
     ⟨(some 2), .mv (.k (.bool false)), none, []⟩])
   (.seq
    (.seq
     (.reg [] [
       ⟨(some 7), .load true 5 (.t 1), none, []⟩,
       ⟨(some 8), .qcall n_tree_Full [(.t 7)] [], none, []⟩,
       ⟨(some 9), .un .not (.t 8), none, []⟩])
     (.cond (.t 9)
      (.seq
       (.reg [] [
         ⟨(some 2), .mv (.k (.bool false)), none, []⟩])
       (.ret i_avl_Is_r))
      .skip))
    (.seq
     (.reg [] [
       ⟨(some 10), .load true 5 (.t 1), none, []⟩,
       ⟨(some 11), .qcall n_tree_List [(.t 10)] [], none, []⟩,
       ⟨(some 3), .cn (.t 11), none, []⟩])
     (.seq
      (.seq
       (.reg [] [
         ⟨(some 4), .mv (.k (.int .i64 1)), none, []⟩])
       (.block 0 i_avl_Is_j0
        (.loop i_avl_Is_k0 i_avl_Is_b0)))
      (.seq
       (.reg [] [
         ⟨(some 32), .load true 5 (.t 1), none, []⟩,
         ⟨(some 33), .qcall n_avl_even [(.t 32)] [], none, []⟩,
         ⟨(some 31), .mv (.t 33), none, []⟩,
         ⟨(some 34), .ext 0 (.t 31), none, []⟩,
         ⟨(some 35), .ext 1 (.t 31), none, []⟩,
         ⟨(some 5), .mv (.t 34), none, []⟩,
         ⟨(some 6), .mv (.t 35), none, []⟩])
       (.seq
        (.reg [] [
          ⟨(some 36), .mv (.t 6), none, []⟩,
          ⟨(some 2), .mv (.t 36), none, []⟩])
        (.ret i_avl_Is_r))))))),
  [.tmp 2], [], false, []⟩

def i_tree_Full_r : List Bool := [false, false, true, false, false, false, false, false, false, false]
/-- heartwood/tree.Full -/
def i_tree_Full : Ev.Fn := ⟨1, 10, 1,
  (.seq
   (.reg [] [
     ⟨(some 1), .box 0 5 (.t 0), none, []⟩,
     ⟨(some 2), .mv (.k (.bool false)), none, []⟩])
   (.seq
    (.reg [] [
      ⟨(some 3), .load true 5 (.t 1), none, []⟩,
      ⟨(some 4), .qcall n_tree_Check [(.t 3)] [], none, []⟩,
      ⟨(some 5), .bin (.iface ty_api_Code true) .eql (.t 4) (.k .nilIface), none, []⟩,
      ⟨(some 6), .mv (.t 5), none, []⟩,
      ⟨(some 7), .load true 5 (.t 1), (some (6, true)), []⟩,
      ⟨(some 8), .qcall n_tree_full [(.t 7)] [], (some (6, true)), []⟩,
      ⟨(some 9), .pick (.t 6) (.t 8) (.k (.bool false)), none, []⟩,
      ⟨(some 2), .mv (.t 9), none, []⟩])
    (.ret i_tree_Full_r))),
  [.tmp 2], [], false, []⟩

def i_tree_Check_r : List Bool := [false, false, true, false, false, false, false, false, false, false, false, false]
def i_tree_Check_j0 : List Bool := [false, false, false, false, false, false, false, false, false, false, false, false]
/-- heartwood/tree.Check -/
def i_tree_Check : Ev.Fn := ⟨1, 12, 1,
  (.seq
   (.reg [] [
     ⟨(some 1), .box 0 5 (.t 0), none, []⟩,
     ⟨(some 2), .mv (.k .nilIface), none, []⟩])
   (.seq
    (.block 0 i_tree_Check_j0
     (.seq
      (.reg [] [
        ⟨(some 4), .load true 5 (.t 1), none, []⟩,
        ⟨(some 5), .qcall n_tree_deep [(.t 4), (.k (.int .i64 64))] [], none, []⟩,
        ⟨(some 3), .mv (.t 5), none, []⟩])
      (.cond (.t 3)
       (.seq
        (.reg [] [
          ⟨(some 6), .mki ty_api_Code (.k (.int .i64 5)), none, []⟩,
          ⟨(some 2), .mv (.t 6), none, []⟩])
        (.ret i_tree_Check_r))
       (.seq
        (.reg [] [
          ⟨(some 8), .load true 5 (.t 1), none, []⟩,
          ⟨(some 9), .qcall n_tree_formed [(.t 8)] [], none, []⟩,
          ⟨(some 10), .un .not (.t 9), none, []⟩,
          ⟨(some 7), .mv (.t 10), none, []⟩])
        (.cond (.t 7)
         (.seq
          (.reg [] [
            ⟨(some 11), .mki ty_api_Code (.k (.int .i64 3)), none, []⟩,
            ⟨(some 2), .mv (.t 11), none, []⟩])
          (.ret i_tree_Check_r))
         .skip)))))
    (.seq
     (.reg [] [
       ⟨(some 2), .mv (.k .nilIface), none, []⟩])
     (.ret i_tree_Check_r)))),
  [.tmp 2], [], false, []⟩

def i_tree_deep_r : List Bool := [false, false, false, false, true, false, false, false, false, false, false, false, false, false, false, false, false, false, false, false, false, false, false, false, false, false, false, false, false]
/-- heartwood/tree.deep -/
def i_tree_deep : Ev.Fn := ⟨2, 29, 2,
  (.seq
   (.reg [] [
     ⟨(some 2), .box 0 5 (.t 0), none, []⟩,
     ⟨(some 3), .box 1 1 (.t 1), none, []⟩,
     ⟨(some 4), .mv (.k (.bool false)), none, []⟩])
   (.seq
    (.reg [] [
      ⟨(some 6), .fa 0 (.t 2), none, []⟩,
      ⟨(some 7), .load false 1 (.t 6), none, []⟩,
      ⟨(some 8), .bin .plain .eql (.t 7) (.k (.int .i64 1)), none, []⟩,
      ⟨(some 9), .mv (.t 8), none, []⟩,
      ⟨(some 10), .fa 0 (.t 2), (some (9, false)), []⟩,
      ⟨(some 11), .load false 1 (.t 10), (some (9, false)), []⟩,
      ⟨(some 12), .bin .plain .eql (.t 11) (.k (.int .i64 2)), (some (9, false)), []⟩,
      ⟨(some 13), .pick (.t 9) (.k (.bool true)) (.t 12), none, []⟩,
      ⟨(some 14), .mv (.t 13), none, []⟩,
      ⟨(some 15), .fa 4 (.t 2), (some (14, false)), []⟩,
      ⟨(some 16), .load false 1 (.t 15), (some (14, false)), []⟩,
      ⟨(some 17), .len false (.t 16), (some (14, false)), []⟩,
      ⟨(some 18), .bin .plain .gtr (.t 17) (.k (.int .i64 0)), (some (14, false)), []⟩,
      ⟨(some 19), .pick (.t 14) (.k (.bool true)) (.t 18), none, []⟩,
      ⟨(some 5), .mv (.t 19), none, []⟩])
    (.seq
     (.seq
      (.reg [] [
        ⟨(some 20), .mv (.t 5), none, []⟩,
        ⟨(some 21), .mv (.t 20), none, []⟩,
        ⟨(some 22), .load false 1 (.t 3), (some (21, true)), []⟩,
        ⟨(some 23), .bin .plain .lss (.t 22) (.k (.int .i64 1)), (some (21, true)), []⟩,
        ⟨(some 24), .pick (.t 21) (.t 23) (.k (.bool false)), none, []⟩])
      (.cond (.t 24)
       (.seq
        (.reg [] [
          ⟨(some 4), .mv (.k (.bool true)), none, []⟩])
        (.ret i_tree_deep_r))
       .skip))
     (.seq
      (.reg [] [
        ⟨(some 25), .fa 4 (.t 2), none, []⟩,
        ⟨(some 26), .load false 1 (.t 25), none, []⟩,
        ⟨(some 27), .mkf n_tree_deep_1 [(.t 3)], none, []⟩,
        ⟨(some 28), .call n_slices_ContainsFunc_sl_api_Tree_api_Tree [(.t 26), (.t 27)] [], none, []⟩,
        ⟨(some 4), .mv (.t 28), none, []⟩])
      (.ret i_tree_deep_r))))),
  [.tmp 4], [], false, []⟩

def i_tree_deep_1_r : List Bool := [false, false, false, true, false, false, false, false]
/-- heartwood/tree.deep$1 -/
def i_tree_deep_1 : Ev.Fn := ⟨2, 8, 1,
  (.seq
   (.reg [] [
     ⟨(some 2), .box 0 5 (.t 0), none, []⟩,
     ⟨(some 3), .mv (.k (.bool false)), none, []⟩])
   (.seq
    (.reg [] [
      ⟨(some 4), .load true 5 (.t 2), none, []⟩,
      ⟨(some 5), .load false 1 (.t 1), none, []⟩,
      ⟨(some 6), .bin .plain .sub (.t 5) (.k (.int .i64 1)), none, []⟩,
      ⟨(some 7), .qcall n_tree_deep [(.t 4), (.t 6)] [], none, [4]⟩,
      ⟨(some 3), .mv (.t 7), none, []⟩])
    (.ret i_tree_deep_1_r))),
  [.tmp 3], [], false, []⟩

def i_slices_ContainsFunc_sl_api_Tree_api_Tree_r : List Bool := [false, false, false, false, true, false, false, false, false]
/-- slices.ContainsFunc[[]heartwood/api.Tree,heartwood/api.Tree] -/
def i_slices_ContainsFunc_sl_api_Tree_api_Tree : Ev.Fn := ⟨2, 9, 0,
  (.seq
   (.reg [] [
     ⟨(some 4), .mv (.k (.bool false)), none, []⟩])
   (.seq
    (.reg [] [
      ⟨(some 5), .cn (.t 0), none, []⟩,
      ⟨(some 6), .mv (.t 1), none, []⟩,
      ⟨(some 7), .call n_slices_IndexFunc_sl_api_Tree_api_Tree [(.t 5), (.t 6)] [], none, []⟩,
      ⟨(some 8), .bin .plain .geq (.t 7) (.k (.int .i64 0)), none, []⟩,
      ⟨(some 4), .mv (.t 8), none, []⟩])
    (.ret i_slices_ContainsFunc_sl_api_Tree_api_Tree_r))),
  [.tmp 4], [], false, []⟩

def i_slices_IndexFunc_sl_api_Tree_api_Tree_r : List Bool := [false, false, false, false, true, false, false, false, false, false, false, false, false, false, false, false, false, false, false]
def i_slices_IndexFunc_sl_api_Tree_api_Tree_j1 : List Bool := [true, true, false, false, false, false, false, true, true, false, false, false, false, false, false, false, false, false, false]
def i_slices_IndexFunc_sl_api_Tree_api_Tree_k0 : List Bool := [true, true, false, false, false, false, false, true, true, false, false, false, false, false, false, false, false, false, false]
def i_slices_IndexFunc_sl_api_Tree_api_Tree_j0 : List Bool := [false, false, false, false, false, false, false, false, false, false, false, false, false, false, false, false, false, false, false]
abbrev s_slices_IndexFunc_sl_api_Tree_api_Tree_R (t4 : AV) (h : Heap) : St := ⟨[.undef, .undef, .undef, .undef, t4, .undef, .undef, .undef, .undef, .undef, .undef, .undef, .undef, .undef, .undef, .undef, .undef, .undef, .undef], h⟩
abbrev s_slices_IndexFunc_sl_api_Tree_api_Tree_K0 (t0 t1 t7 t8 : AV) (h : Heap) : St := ⟨[t0, t1, .undef, .undef, .undef, .undef, .undef, t7, t8, .undef, .undef, .undef, .undef, .undef, .undef, .undef, .undef, .undef, .undef], h⟩
def i_slices_IndexFunc_sl_api_Tree_api_Tree_b0 : IR :=
  (.seq
   (.reg [] [
     ⟨(some 9), .bin .plain .lss (.t 8) (.t 7), none, []⟩])
   (.seq
    (.cond (.t 9)
     .skip
     (.exit 0 i_slices_IndexFunc_sl_api_Tree_api_Tree_j0))
    (.seq
     (.block 1 i_slices_IndexFunc_sl_api_Tree_api_Tree_j1
      (.seq
       (.reg [] [
         ⟨(some 10), .mv (.t 8), none, []⟩,
         ⟨(some 5), .mv (.t 10), none, []⟩])
       (.seq
        (.reg [] [
          ⟨(some 11), .mv (.t 1), none, []⟩,
          ⟨(some 12), .cn (.t 0), none, []⟩,
          ⟨(some 13), .mv (.t 5), none, []⟩,
          ⟨(some 14), .ia 5 (.t 12) (.t 13), none, []⟩,
          ⟨(some 15), .load true 5 (.t 14), none, []⟩,
          ⟨(some 16), .callv (.t 11) [(.t 15)] [], none, [15]⟩])
        (.cond (.t 16)
         (.seq
          (.reg [] [
            ⟨(some 17), .mv (.t 5), none, []⟩,
            ⟨(some 4), .mv (.t 17), none, []⟩])
          (.ret i_slices_IndexFunc_sl_api_Tree_api_Tree_r))
         .skip))))
     (.reg [] [
       ⟨(some 18), .bin .plain .add (.t 8) (.k (.int .i64 1)), none, []⟩,
       ⟨(some 8), .mv (.t 18), none, []⟩]))))

abbrev s_slices_IndexFunc_sl_api_Tree_api_Tree_J0 (h : Heap) : St := ⟨[.undef, .undef, .undef, .undef, .undef, .undef, .undef, .undef, .undef, .undef, .undef, .undef, .undef, .undef, .undef, .undef, .undef, .undef, .undef], h⟩
/-- slices.IndexFunc[[]heartwood/api.Tree,heartwood/api.Tree] -/
def i_slices_IndexFunc_sl_api_Tree_api_Tree : Ev.Fn := ⟨2, 19, 0,
  (.seq
   (.reg [] [
     ⟨(some 4), .mv (.k (.int .i64 0)), none, []⟩])
   (.seq
    (.seq
     (.reg [] [
       ⟨(some 6), .cn (.t 0), none, []⟩,
       ⟨(some 7), .len false (.t 6), none, []⟩,
       ⟨(some 8), .mv (.k (.int .i64 0)), none, []⟩])
     (.block 0 i_slices_IndexFunc_sl_api_Tree_api_Tree_j0
      (.loop i_slices_IndexFunc_sl_api_Tree_api_Tree_k0 i_slices_IndexFunc_sl_api_Tree_api_Tree_b0)))
    (.seq
     (.reg [] [
       ⟨(some 4), .mv (.k (.int .i64 (-1))), none, []⟩])
     (.ret i_slices_IndexFunc_sl_api_Tree_api_Tree_r)))),
  [.tmp 4], [], false, []⟩

def i_tree_formed_r : List Bool := [false, false, true, false, false, false, false, false, false, false, false, false, false, false, false, false, false, false, false, false, false, false, false, false, false, false, false, false, false, false, false, false, false, false, false, false, false, false, false, false, false, false, false, false, false, false, false, false, false, false, false, false, false, false, false, false, false, false, false, false, false, false, false, false, false, false, false, false, false, false, false, false, false, false, false, false, false, false, false, false, false, false, false, false, false, false, false]
def i_tree_formed_j0 : List Bool := [false, true, false, true, false, false, false, false, false, false, false, false, false, false, false, false, false, false, false, false, false, false, false, false, false, false, false, false, false, false, false, false, false, false, false, false, false, false, false, false, false, false, false, false, false, false, false, false, false, false, false, false, false, false, false, false, false, false, false, false, false, false, false, false, false, false, false, false, false, false, false, false, false, false, false, false, false, false, false, false, false, false, false, false, false, false, false]
/-- heartwood/tree.formed -/
def i_tree_formed : Ev.Fn := ⟨1, 87, 1,
  (.seq
   (.reg [] [
     ⟨(some 1), .box 0 5 (.t 0), none, []⟩,
     ⟨(some 2), .mv (.k (.bool false)), none, []⟩])
   (.seq
    (.reg [] [
      ⟨(some 3), .mv (.k (.bool false)), none, []⟩])
    (.seq
     (.seq
      (.reg [] [
        ⟨(some 4), .fa 0 (.t 1), none, []⟩,
        ⟨(some 5), .load false 1 (.t 4), none, []⟩])
      (.block 0 i_tree_formed_j0
       (.seq
        (.reg [] [
          ⟨(some 7), .bin .plain .eql (.t 5) (.k (.int .i64 0)), none, []⟩,
          ⟨(some 6), .mv (.t 7), none, []⟩])
        (.cond (.t 6)
         (.reg [] [
           ⟨(some 8), .fa 1 (.t 1), none, []⟩,
           ⟨(some 9), .load false 1 (.t 8), none, []⟩,
           ⟨(some 10), .len false (.t 9), none, []⟩,
           ⟨(some 11), .fa 2 (.t 1), none, []⟩,
           ⟨(some 12), .load false 1 (.t 11), none, []⟩,
           ⟨(some 13), .len false (.t 12), none, []⟩,
           ⟨(some 14), .bin .plain .add (.t 10) (.t 13), none, []⟩,
           ⟨(some 15), .fa 3 (.t 1), none, []⟩,
           ⟨(some 16), .load false 1 (.t 15), none, []⟩,
           ⟨(some 17), .len false (.t 16), none, []⟩,
           ⟨(some 18), .bin .plain .add (.t 14) (.t 17), none, []⟩,
           ⟨(some 19), .fa 4 (.t 1), none, []⟩,
           ⟨(some 20), .load false 1 (.t 19), none, []⟩,
           ⟨(some 21), .len false (.t 20), none, []⟩,
           ⟨(some 22), .bin .plain .add (.t 18) (.t 21), none, []⟩,
           ⟨(some 23), .bin .plain .eql (.t 22) (.k (.int .i64 0)), none, []⟩,
           ⟨(some 3), .mv (.t 23), none, []⟩])
         (.seq
          (.reg [] [
            ⟨(some 25), .bin .plain .eql (.t 5) (.k (.int .i64 1)), none, []⟩,
            ⟨(some 24), .mv (.t 25), none, []⟩])
          (.cond (.t 24)
           (.reg [] [
             ⟨(some 26), .fa 1 (.t 1), none, []⟩,
             ⟨(some 27), .load false 1 (.t 26), none, []⟩,
             ⟨(some 28), .len false (.t 27), none, []⟩,
             ⟨(some 29), .bin .plain .leq (.t 28) (.k (.int .i64 80)), none, []⟩,
             ⟨(some 30), .mv (.t 29), none, []⟩,
             ⟨(some 31), .fa 2 (.t 1), (some (30, true)), []⟩,
             ⟨(some 32), .load false 1 (.t 31), (some (30, true)), []⟩,
             ⟨(some 33), .len false (.t 32), (some (30, true)), []⟩,
             ⟨(some 34), .bin .plain .leq (.t 33) (.k (.int .i64 1024)), (some (30, true)), []⟩,
             ⟨(some 35), .pick (.t 30) (.t 34) (.k (.bool false)), none, []⟩,
             ⟨(some 36), .mv (.t 35), none, []⟩,
             ⟨(some 37), .fa 3 (.t 1), (some (36, true)), []⟩,
             ⟨(some 38), .load false 1 (.t 37), (some (36, true)), []⟩,
             ⟨(some 39), .len false (.t 38), (some (36, true)), []⟩,
             ⟨(some 40), .bin .plain .eql (.t 39) (.k (.int .i64 0)), (some (36, true)), []⟩,
             ⟨(some 41), .pick (.t 36) (.t 40) (.k (.bool false)), none, []⟩,
             ⟨(some 42), .mv (.t 41), none, []⟩,
             ⟨(some 43), .fa 4 (.t 1), (some (42, true)), []⟩,
             ⟨(some 44), .load false 1 (.t 43), (some (42, true)), []⟩,
             ⟨(some 45), .len false (.t 44), (some (42, true)), []⟩,
             ⟨(some 46), .bin .plain .eql (.t 45) (.k (.int .i64 2)), (some (42, true)), []⟩,
             ⟨(some 47), .pick (.t 42) (.t 46) (.k (.bool false)), none, []⟩,
             ⟨(some 3), .mv (.t 47), none, []⟩])
           (.seq
            (.reg [] [
              ⟨(some 49), .bin .plain .eql (.t 5) (.k (.int .i64 2)), none, []⟩,
              ⟨(some 48), .mv (.t 49), none, []⟩])
            (.cond (.t 48)
             (.reg [] [
               ⟨(some 50), .fa 1 (.t 1), none, []⟩,
               ⟨(some 51), .load false 1 (.t 50), none, []⟩,
               ⟨(some 52), .len false (.t 51), none, []⟩,
               ⟨(some 53), .bin .plain .leq (.t 52) (.k (.int .i64 80)), none, []⟩,
               ⟨(some 54), .mv (.t 53), none, []⟩,
               ⟨(some 55), .fa 2 (.t 1), (some (54, true)), []⟩,
               ⟨(some 56), .load false 1 (.t 55), (some (54, true)), []⟩,
               ⟨(some 57), .len false (.t 56), (some (54, true)), []⟩,
               ⟨(some 58), .bin .plain .eql (.t 57) (.k (.int .i64 0)), (some (54, true)), []⟩,
               ⟨(some 59), .pick (.t 54) (.t 58) (.k (.bool false)), none, []⟩,
               ⟨(some 60), .mv (.t 59), none, []⟩,
               ⟨(some 61), .fa 4 (.t 1), (some (60, true)), []⟩,
               ⟨(some 62), .load false 1 (.t 61), (some (60, true)), []⟩,
               ⟨(some 63), .len false (.t 62), (some (60, true)), []⟩,
               ⟨(some 64), .bin .plain .eql (.t 63) (.k (.int .i64 2)), (some (60, true)), []⟩,
               ⟨(some 65), .pick (.t 60) (.t 64) (.k (.bool false)), none, []⟩,
               ⟨(some 3), .mv (.t 65), none, []⟩])
             (.seq
              (.reg [] [
                ⟨(some 67), .bin .plain .eql (.t 5) (.k (.int .i64 3)), none, []⟩,
                ⟨(some 66), .mv (.t 67), none, []⟩])
              (.cond (.t 66)
               (.reg [] [
                 ⟨(some 68), .fa 1 (.t 1), none, []⟩,
                 ⟨(some 69), .load false 1 (.t 68), none, []⟩,
                 ⟨(some 70), .len false (.t 69), none, []⟩,
                 ⟨(some 71), .fa 2 (.t 1), none, []⟩,
                 ⟨(some 72), .load false 1 (.t 71), none, []⟩,
                 ⟨(some 73), .len false (.t 72), none, []⟩,
                 ⟨(some 74), .bin .plain .add (.t 70) (.t 73), none, []⟩,
                 ⟨(some 75), .fa 4 (.t 1), none, []⟩,
                 ⟨(some 76), .load false 1 (.t 75), none, []⟩,
                 ⟨(some 77), .len false (.t 76), none, []⟩,
                 ⟨(some 78), .bin .plain .add (.t 74) (.t 77), none, []⟩,
                 ⟨(some 79), .bin .plain .eql (.t 78) (.k (.int .i64 0)), none, []⟩,
                 ⟨(some 3), .mv (.t 79), none, []⟩])
               .skip))))))))))
     (.seq
      (.reg [] [
        ⟨(some 80), .mv (.t 3), none, []⟩,
        ⟨(some 81), .mv (.t 80), none, []⟩,
        ⟨(some 82), .fa 4 (.t 1), (some (81, true)), []⟩,
        ⟨(some 83), .load false 1 (.t 82), (some (81, true)), []⟩,
        ⟨(some 84), .call n_slices_ContainsFunc_sl_api_Tree_api_Tree [(.t 83), (.f n_tree_formed_1)] [], (some (81, true)), []⟩,
        ⟨(some 85), .un .not (.t 84), (some (81, true)), []⟩,
        ⟨(some 86), .pick (.t 81) (.t 85) (.k (.bool false)), none, []⟩,
        ⟨(some 2), .mv (.t 86), none, []⟩])
      (.ret i_tree_formed_r))))),
  [.tmp 2], [], false, []⟩

def i_tree_formed_1_r : List Bool := [false, false, true, false, false, false]
/-- heartwood/tree.formed$1 -/
def i_tree_formed_1 : Ev.Fn := ⟨1, 6, 1,
  (.seq
   (.reg [] [
     ⟨(some 1), .box 0 5 (.t 0), none, []⟩,
     ⟨(some 2), .mv (.k (.bool false)), none, []⟩])
   (.seq
    (.reg [] [
      ⟨(some 3), .load true 5 (.t 1), none, []⟩,
      ⟨(some 4), .qcall n_tree_formed [(.t 3)] [], none, []⟩,
      ⟨(some 5), .un .not (.t 4), none, []⟩,
      ⟨(some 2), .mv (.t 5), none, []⟩])
    (.ret i_tree_formed_1_r))),
  [.tmp 2], [], false, []⟩

def i_tree_full_r : List Bool := [false, false, true, false, false, false, false, false, false, false, false, false, false, false, false]
/-- heartwood/tree.full -/
def i_tree_full : Ev.Fn := ⟨1, 15, 1,
  (.seq
   (.reg [] [
     ⟨(some 1), .box 0 5 (.t 0), none, []⟩,
     ⟨(some 2), .mv (.k (.bool false)), none, []⟩])
   (.seq
    (.seq
     (.reg [] [
       ⟨(some 3), .fa 0 (.t 1), none, []⟩,
       ⟨(some 4), .load false 1 (.t 3), none, []⟩,
       ⟨(some 5), .bin .plain .eql (.t 4) (.k (.int .i64 2)), none, []⟩,
       ⟨(some 6), .mv (.t 5), none, []⟩,
       ⟨(some 7), .fa 0 (.t 1), (some (6, false)), []⟩,
       ⟨(some 8), .load false 1 (.t 7), (some (6, false)), []⟩,
       ⟨(some 9), .bin .plain .eql (.t 8) (.k (.int .i64 3)), (some (6, false)), []⟩,
       ⟨(some 10), .pick (.t 6) (.k (.bool true)) (.t 9), none, []⟩])
     (.cond (.t 10)
      (.seq
       (.reg [] [
         ⟨(some 2), .mv (.k (.bool false)), none, []⟩])
       (.ret i_tree_full_r))
      .skip))
    (.seq
     (.reg [] [
       ⟨(some 11), .fa 4 (.t 1), none, []⟩,
       ⟨(some 12), .load false 1 (.t 11), none, []⟩,
       ⟨(some 13), .call n_slices_ContainsFunc_sl_api_Tree_api_Tree [(.t 12), (.f n_tree_full_1)] [], none, []⟩,
       ⟨(some 14), .un .not (.t 13), none, []⟩,
       ⟨(some 2), .mv (.t 14), none, []⟩])
     (.ret i_tree_full_r)))),
  [.tmp 2], [], false, []⟩

def i_tree_full_1_r : List Bool := [false, false, true, false, false, false]
/-- heartwood/tree.full$1 -/
def i_tree_full_1 : Ev.Fn := ⟨1, 6, 1,
  (.seq
   (.reg [] [
     ⟨(some 1), .box 0 5 (.t 0), none, []⟩,
     ⟨(some 2), .mv (.k (.bool false)), none, []⟩])
   (.seq
    (.reg [] [
      ⟨(some 3), .load true 5 (.t 1), none, []⟩,
      ⟨(some 4), .qcall n_tree_full [(.t 3)] [], none, []⟩,
      ⟨(some 5), .un .not (.t 4), none, []⟩,
      ⟨(some 2), .mv (.t 5), none, []⟩])
    (.ret i_tree_full_1_r))),
  [.tmp 2], [], false, []⟩

def i_tree_List_r : List Bool := [false, false, true, false, false, false, false, false, false, false, false, false, false]
/-- heartwood/tree.List -/
def i_tree_List : Ev.Fn := ⟨1, 13, 4,
  (.seq
   (.reg [] [
     ⟨(some 1), .box 0 5 (.t 0), none, []⟩,
     ⟨(some 2), .cn (.k (.slice none 0 0)), none, []⟩])
   (.seq
    (.seq
     (.reg [] [
       ⟨(some 5), .load true 5 (.t 1), none, []⟩,
       ⟨(some 6), .qcall n_tree_Check [(.t 5)] [], none, []⟩,
       ⟨(some 7), .bin (.iface ty_api_Code true) .neq (.t 6) (.k .nilIface), none, []⟩])
     (.cond (.t 7)
      (.seq
       (.reg [] [
         ⟨(some 2), .cn (.k (.slice none 0 0)), none, []⟩])
       (.ret i_tree_List_r))
      .skip))
    (.seq
     (.reg [] [
       ⟨(some 3), .new 1 [(.slice none 0 0)], none, []⟩])
     (.seq
      (.reg [] [
        ⟨(some 4), .new 2 [.nilFunc], none, []⟩])
      (.seq
       (.reg [] [
         ⟨(some 8), .mkf n_tree_List_1 [(.t 4), (.t 3)], none, []⟩,
         ⟨none, .store 1 (.t 4) (.t 8), none, []⟩])
       (.seq
        (.reg [] [
          ⟨(some 9), .load false 1 (.t 4), none, []⟩,
          ⟨(some 10), .load true 5 (.t 1), none, []⟩,
          ⟨(some 11), .callv (.t 9) [(.t 10)] [3], none, []⟩])
        (.seq
         (.reg [] [
           ⟨(some 12), .load false 1 (.t 3), none, []⟩,
           ⟨(some 2), .cn (.t 12), none, []⟩])
         (.ret i_tree_List_r)))))))),
  [.tmp 2], [], false, []⟩

def i_tree_List_1_r : List Bool := [false, false, false, false, false, false, false, false, false, false, false, false, false, false, false, false, false, false, false, false, false, false, false, false, false, false]
/-- heartwood/tree.List$1 -/
def i_tree_List_1 : Ev.Fn := ⟨3, 26, 4,
  (.seq
   (.reg [] [
     ⟨(some 3), .box 0 5 (.t 0), none, []⟩])
   (.seq
    (.seq
     (.reg [] [
       ⟨(some 4), .fa 4 (.t 3), none, []⟩,
       ⟨(some 5), .load false 1 (.t 4), none, []⟩,
       ⟨(some 6), .len false (.t 5), none, []⟩,
       ⟨(some 7), .bin .plain .eql (.t 6) (.k (.int .i64 0)), none, []⟩])
     (.cond (.t 7)
      (.ret i_tree_List_1_r)
      .skip))
    (.seq
     (.reg [] [
       ⟨(some 8), .load false 1 (.t 1), none, []⟩,
       ⟨(some 9), .fa 4 (.t 3), none, []⟩,
       ⟨(some 10), .load false 1 (.t 9), none, []⟩,
       ⟨(some 11), .ia 5 (.t 10) (.k (.int .i64 0)), none, []⟩,
       ⟨(some 12), .load true 5 (.t 11), none, []⟩,
       ⟨(some 13), .callv (.t 8) [(.t 12)] [1], none, [12]⟩])
     (.seq
      (.reg [(5, 7), (6, 7)] [
        ⟨(some 14), .load false 1 (.t 2), none, []⟩,
        ⟨(some 15), .load true 5 (.t 3), none, []⟩,
        ⟨(some 16), .len false (.t 14), none, []⟩,
        ⟨(some 17), .litd 5 1 [(.int .i64 0), (.slice none 0 0), (.slice none 0 0), (.slice none 0 0), (.slice none 0 0)] [(0, (.k (.agg #[(.int .i64 0), (.slice none 0 0), (.slice none 0 0), (.slice none 0 0), (.slice none 0 0)])))], none, []⟩,
        ⟨(some 18), .app 2 ty_api_Tree 5 104 (.t 14) (.t 17), none, []⟩,
        ⟨(some 19), .ia 5 (.t 18) (.t 16), none, []⟩,
        ⟨none, .store 5 (.t 19) (.t 15), none, [15]⟩,
        ⟨none, .store 1 (.t 2) (.t 18), none, []⟩])
      (.reg [] [
        ⟨(some 20), .load false 1 (.t 1), none, []⟩,
        ⟨(some 21), .fa 4 (.t 3), none, []⟩,
        ⟨(some 22), .load false 1 (.t 21), none, []⟩,
        ⟨(some 23), .ia 5 (.t 22) (.k (.int .i64 1)), none, []⟩,
        ⟨(some 24), .load true 5 (.t 23), none, []⟩,
        ⟨(some 25), .callv (.t 20) [(.t 24)] [3], none, [24]⟩]))))),
  [], [], false, []⟩

def i_bytes_Compare_r : List Bool := [false, false, false, false, true, false, false, false]
/-- bytes.Compare -/
def i_bytes_Compare : Ev.Fn := ⟨2, 8, 0,
  (.seq
   (.reg [] [
     ⟨(some 4), .mv (.k (.int .i64 0)), none, []⟩])
   (.seq
    (.reg [] [
      ⟨(some 5), .cn (.t 0), none, []⟩,
      ⟨(some 6), .cn (.t 1), none, []⟩,
      ⟨(some 7), .cmpb (.t 5) (.t 6), none, []⟩,
      ⟨(some 4), .mv (.t 7), none, []⟩])
    (.ret i_bytes_Compare_r))),
  [.tmp 4], [], false, []⟩

def i_avl_even_r : List Bool := [false, false, true, true, false, false, false, false, false, false, false, false, false, false, false, false, false, false, false, false, false, false, false, false, false, false, false, false, false, false, false, false, false, false, false, false, false, false, false, false, false, false, false, false, false, false, false, false]
/-- heartwood/avl.even -/
def i_avl_even : Ev.Fn := ⟨1, 48, 1,
  (.seq
   (.reg [] [
     ⟨(some 1), .box 0 5 (.t 0), none, []⟩,
     ⟨(some 2), .mv (.k (.int .i64 0)), none, []⟩,
     ⟨(some 3), .mv (.k (.bool false)), none, []⟩])
   (.seq
    (.seq
     (.reg [] [
       ⟨(some 8), .fa 4 (.t 1), none, []⟩,
       ⟨(some 9), .load false 1 (.t 8), none, []⟩,
       ⟨(some 10), .len false (.t 9), none, []⟩,
       ⟨(some 11), .bin .plain .eql (.t 10) (.k (.int .i64 0)), none, []⟩])
     (.cond (.t 11)
      (.seq
       (.reg [] [
         ⟨(some 2), .mv (.k (.int .i64 0)), none, []⟩,
         ⟨(some 3), .mv (.k (.bool true)), none, []⟩])
       (.ret i_avl_even_r))
      .skip))
    (.seq
     (.reg [] [
       ⟨(some 13), .fa 4 (.t 1), none, []⟩,
       ⟨(some 14), .load false 1 (.t 13), none, []⟩,
       ⟨(some 15), .ia 5 (.t 14) (.k (.int .i64 0)), none, []⟩,
       ⟨(some 16), .load true 5 (.t 15), none, []⟩,
       ⟨(some 17), .qcall n_avl_even [(.t 16)] [], none, []⟩,
       ⟨(some 12), .mv (.t 17), none, []⟩,
       ⟨(some 18), .ext 0 (.t 12), none, []⟩,
       ⟨(some 19), .ext 1 (.t 12), none, []⟩,
       ⟨(some 4), .mv (.t 18), none, []⟩,
       ⟨(some 5), .mv (.t 19), none, []⟩])
     (.seq
      (.reg [] [
        ⟨(some 21), .fa 4 (.t 1), none, []⟩,
        ⟨(some 22), .load false 1 (.t 21), none, []⟩,
        ⟨(some 23), .ia 5 (.t 22) (.k (.int .i64 1)), none, []⟩,
        ⟨(some 24), .load true 5 (.t 23), none, []⟩,
        ⟨(some 25), .qcall n_avl_even [(.t 24)] [], none, []⟩,
        ⟨(some 20), .mv (.t 25), none, []⟩,
        ⟨(some 26), .ext 0 (.t 20), none, []⟩,
        ⟨(some 27), .ext 1 (.t 20), none, []⟩,
        ⟨(some 6), .mv (.t 26), none, []⟩,
        ⟨(some 7), .mv (.t 27), none, []⟩])
      (.seq
       (.reg [] [
         ⟨(some 28), .mv (.t 4), none, []⟩,
         ⟨(some 29), .mv (.t 6), none, []⟩,
         ⟨(some 30), .mx (.t 28) (.t 29), none, []⟩,
         ⟨(some 31), .bin .plain .add (.t 30) (.k (.int .i64 1)), none, []⟩,
         ⟨(some 32), .mv (.t 5), none, []⟩,
         ⟨(some 33), .mv (.t 32), none, []⟩,
         ⟨(some 34), .mv (.t 7), (some (33, true)), []⟩,
         ⟨(some 35), .pick (.t 33) (.t 34) (.k (.bool false)), none, []⟩,
         ⟨(some 36), .mv (.t 35), none, []⟩,
         ⟨(some 37), .mv (.t 4), (some (36, true)), []⟩,
         ⟨(some 38), .mv (.t 6), (some (36, true)), []⟩,
         ⟨(some 39), .bin .plain .sub (.t 37) (.t 38), (some (36, true)), []⟩,
         ⟨(some 40), .bin .plain .leq (.t 39) (.k (.int .i64 1)), (some (36, true)), []⟩,
         ⟨(some 41), .pick (.t 36) (.t 40) (.k (.bool false)), none, []⟩,
         ⟨(some 42), .mv (.t 41), none, []⟩,
         ⟨(some 43), .mv (.t 6), (some (42, true)), []⟩,
         ⟨(some 44), .mv (.t 4), (some (42, true)), []⟩,
         ⟨(some 45), .bin .plain .sub (.t 43) (.t 44), (some (42, true)), []⟩,
         ⟨(some 46), .bin .plain .leq (.t 45) (.k (.int .i64 1)), (some (42, true)), []⟩,
         ⟨(some 47), .pick (.t 42) (.t 46) (.k (.bool false)), none, []⟩,
         ⟨(some 2), .mv (.t 31), none, []⟩,
         ⟨(some 3), .mv (.t 47), none, []⟩])
       (.ret i_avl_even_r)))))),
  [.tmp 2, .tmp 3], [], false, []⟩

def i_slices_Clone_sl_byte_byte_r : List Bool := [false, false, true, false, false, false, false, false]
/-- slices.Clone[[]byte,byte] -/
def i_slices_Clone_sl_byte_byte : Ev.Fn := ⟨1, 8, 1,
  (.seq
   (.reg [] [
     ⟨(some 2), .cn (.k (.slice none 0 0)), none, []⟩])
   (.seq
    (.seq
     (.reg [] [
       ⟨(some 3), .mv (.t 0), none, []⟩,
       ⟨(some 4), .bin .slice .eql (.t 3) (.k (.slice none 0 0)), none, []⟩])
     (.cond (.t 4)
      (.seq
       (.reg [] [
         ⟨(some 2), .cn (.k (.slice none 0 0)), none, []⟩])
       (.ret i_slices_Clone_sl_byte_byte_r))
      .skip))
    (.seq
     (.reg [] [
       ⟨(some 5), .lit 0 ty_uint8 1 0 [(.int .u8 0)] [], none, []⟩,
       ⟨(some 6), .cn (.t 0), none, []⟩,
       ⟨(some 7), .app 0 ty_uint8 1 1 (.t 5) (.t 6), none, []⟩,
       ⟨(some 2), .cn (.t 7), none, [7]⟩])
     (.ret i_slices_Clone_sl_byte_byte_r)))),
  [.tmp 2], [], true, []⟩

def i_avl_put_r : List Bool := [false, false, false, false, false, false, true, false, false, false, false, false, false, false, false, false, false, false, false, false, false, false, false, false, false, false, false, false, false, false, false, false, false, false, false, false, false, false, false, false, false, false, false, false, false, false, false, false, false, false, false, false, false, false, false, false, false, false, false, false, false, false, false, false, false]
def i_avl_put_j0 : List Bool := [false, true, true, true, false, false, true, true, true, false, false, false, false, false, false, false, false, false, false, false, false, false, false, false, false, false, false, false, false, false, false, false, false, false, false, false, false, false, false, false, false, false, false, false, false, false, false, false, false, false, false, false, false, false, false, false, false, false, false, false, false, false, false, false, false]
/-- heartwood/avl.put -/
def i_avl_put : Ev.Fn := ⟨3, 65, 4,
  (.seq
   (.reg [] [
     ⟨(some 3), .box 0 5 (.t 0), none, []⟩,
     ⟨(some 6), .new 1 [(.int .i64 0), (.slice none 0 0), (.slice none 0 0), (.slice none 0 0), (.slice none 0 0)], none, []⟩])
   (.seq
    (.seq
     (.reg [] [
       ⟨(some 10), .fa 4 (.t 3), none, []⟩,
       ⟨(some 11), .load false 1 (.t 10), none, []⟩,
       ⟨(some 12), .len false (.t 11), none, []⟩,
       ⟨(some 13), .bin .plain .eql (.t 12) (.k (.int .i64 0)), none, []⟩])
     (.cond (.t 13)
      (.seq
       (.reg [] [
         ⟨(some 14), .build [(.int .i64 0), (.slice none 0 0), (.slice none 0 0), (.slice none 0 0), (.slice none 0 0)] [], none, []⟩,
         ⟨(some 15), .cn (.t 1), none, []⟩,
         ⟨(some 16), .cn (.t 2), none, []⟩,
         ⟨(some 17), .build [(.int .i64 0), (.slice none 0 0), (.slice none 0 0), (.slice none 0 0), (.slice none 0 0)] [], none, []⟩,
         ⟨(some 18), .qcall n_avl_node [(.t 14), (.t 15), (.t 16), (.t 17)] [], none, []⟩,
         ⟨none, .store 5 (.t 6) (.t 18), none, []⟩])
       (.ret i_avl_put_r))
      .skip))
    (.seq
     (.reg [(1, 8), (2, 8), (3, 8), (5, 8), (6, 8), (7, 8), (1, 9), (2, 9), (3, 9), (5, 9), (6, 9), (7, 9), (8, 9), (5, 10), (6, 10), (7, 10)] [
       ⟨(some 19), .fa 4 (.t 3), none, []⟩,
       ⟨(some 20), .load false 1 (.t 19), none, []⟩,
       ⟨(some 21), .ia 5 (.t 20) (.k (.int .i64 0)), none, []⟩,
       ⟨(some 22), .load true 5 (.t 21), none, []⟩,
       ⟨(some 23), .fa 4 (.t 3), none, []⟩,
       ⟨(some 24), .load false 1 (.t 23), none, []⟩,
       ⟨(some 25), .ia 5 (.t 24) (.k (.int .i64 1)), none, []⟩,
       ⟨(some 26), .load true 5 (.t 25), none, []⟩,
       ⟨(some 7), .new 2 [(.int .i64 0), (.slice none 0 0), (.slice none 0 0), (.slice none 0 0), (.slice none 0 0)], none, []⟩,
       ⟨(some 8), .new 3 [(.int .i64 0), (.slice none 0 0), (.slice none 0 0), (.slice none 0 0), (.slice none 0 0)], none, []⟩,
       ⟨none, .store 5 (.t 7) (.t 22), none, []⟩,
       ⟨none, .store 5 (.t 8) (.t 26), none, []⟩])
     (.seq
      (.seq
       (.reg [] [
         ⟨(some 27), .cn (.t 1), none, []⟩,
         ⟨(some 28), .fa 1 (.t 3), none, []⟩,
         ⟨(some 29), .load false 1 (.t 28), none, []⟩,
         ⟨(some 30), .qcall n_bytes_Compare [(.t 27), (.t 29)] [], none, []⟩,
         ⟨(some 9), .mv (.t 30), none, []⟩])
       (.block 0 i_avl_put_j0
        (.seq
         (.reg [] [
           ⟨(some 32), .mv (.t 9), none, []⟩,
           ⟨(some 33), .bin .plain .eql (.t 32) (.k (.int .i64 0)), none, []⟩,
           ⟨(some 31), .mv (.t 33), none, []⟩])
         (.cond (.t 31)
          (.seq
           (.reg [] [
             ⟨(some 34), .load true 5 (.t 7), none, []⟩,
             ⟨(some 35), .fa 1 (.t 3), none, []⟩,
             ⟨(some 36), .load false 1 (.t 35), none, []⟩,
             ⟨(some 37), .cn (.t 2), none, []⟩,
             ⟨(some 38), .load true 5 (.t 8), none, []⟩,
             ⟨(some 39), .qcall n_avl_node [(.t 34), (.t 36), (.t 37), (.t 38)] [], none, []⟩,
             ⟨none, .store 5 (.t 6) (.t 39), none, []⟩])
           (.ret i_avl_put_r))
          (.seq
           (.reg [] [
             ⟨(some 41), .mv (.t 9), none, []⟩,
             ⟨(some 42), .bin .plain .lss (.t 41) (.k (.int .i64 0)), none, []⟩,
             ⟨(some 40), .mv (.t 42), none, []⟩])
           (.cond (.t 40)
            (.seq
             (.reg [] [
               ⟨(some 43), .load true 5 (.t 7), none, []⟩,
               ⟨(some 44), .cn (.t 1), none, []⟩,
               ⟨(some 45), .cn (.t 2), none, []⟩,
               ⟨(some 46), .qcall n_avl_put [(.t 43), (.t 44), (.t 45)] [], none, []⟩,
               ⟨(some 47), .fa 1 (.t 3), none, []⟩,
               ⟨(some 48), .load false 1 (.t 47), none, []⟩,
               ⟨(some 49), .fa 2 (.t 3), none, []⟩,
               ⟨(some 50), .load false 1 (.t 49), none, []⟩,
               ⟨(some 51), .load true 5 (.t 8), none, []⟩,
               ⟨(some 52), .qcall n_avl_node [(.t 46), (.t 48), (.t 50), (.t 51)] [], none, []⟩,
               ⟨(some 53), .qcall n_avl_leveled [(.t 52)] [], none, []⟩,
               ⟨none, .store 5 (.t 6) (.t 53), none, []⟩])
             (.ret i_avl_put_r))
            .skip))))))
      (.seq
       (.reg [] [
         ⟨(some 54), .load true 5 (.t 7), none, []⟩,
         ⟨(some 55), .fa 1 (.t 3), none, []⟩,
         ⟨(some 56), .load false 1 (.t 55), none, []⟩,
         ⟨(some 57), .fa 2 (.t 3), none, []⟩,
         ⟨(some 58), .load false 1 (.t 57), none, []⟩,
         ⟨(some 59), .load true 5 (.t 8), none, []⟩,
         ⟨(some 60), .cn (.t 1), none, []⟩,
         ⟨(some 61), .cn (.t 2), none, []⟩,
         ⟨(some 62), .qcall n_avl_put [(.t 59), (.t 60), (.t 61)] [], none, []⟩,
         ⟨(some 63), .qcall n_avl_node [(.t 54), (.t 56), (.t 58), (.t 62)] [], none, []⟩,
         ⟨(some 64), .qcall n_avl_leveled [(.t 63)] [], none, []⟩,
         ⟨none, .store 5 (.t 6) (.t 64), none, []⟩])
       (.ret i_avl_put_r)))))),
  [.cell 6 true 5], [], false, []⟩

def i_avl_node_r : List Bool := [false, false, false, false, false, false, false, false, true, false, false, false, false, false, false]
/-- heartwood/avl.node -/
def i_avl_node : Ev.Fn := ⟨4, 15, 3,
  (.seq
   (.reg [] [
     ⟨(some 4), .box 0 5 (.t 0), none, []⟩,
     ⟨(some 7), .box 1 5 (.t 3), none, []⟩,
     ⟨(some 8), .new 2 [(.int .i64 0), (.slice none 0 0), (.slice none 0 0), (.slice none 0 0), (.slice none 0 0)], none, []⟩])
   (.seq
    (.reg [] [
      ⟨(some 9), .cn (.t 1), none, []⟩,
      ⟨(some 10), .cn (.t 2), none, []⟩,
      ⟨(some 11), .load true 5 (.t 4), none, []⟩,
      ⟨(some 12), .load true 5 (.t 7), none, []⟩,
      ⟨(some 13), .litd 5 2 [(.int .i64 0), (.slice none 0 0), (.slice none 0 0), (.slice none 0 0), (.slice none 0 0)] [(0, (.t 11)), (1, (.t 12))], none, []⟩,
      ⟨(some 14), .build [(.int .i64 0), (.slice none 0 0), (.slice none 0 0), (.slice none 0 0), (.slice none 0 0)] [(0, 1, (.k (.int .i64 1))), (1, 1, (.t 9)), (2, 1, (.t 10)), (4, 1, (.t 13))], none, []⟩,
      ⟨none, .store 5 (.t 8) (.t 14), none, []⟩])
    (.ret i_avl_node_r))),
  [.cell 8 true 5], [], false, []⟩

def i_avl_leveled_r : List Bool := [false, false, true, false, false, false, false, false, false, false, false, false, false, false, false, false, false, false, false, false, false, false, false, false, false, false, false, false, false, false, false, false, false, false, false, false, false, false, false, false, false, false, false, false, false, false, false, false, false, false, false, false, false, false, false, false, false, false, false, false, false, false, false, false, false, false, false, false]
def i_avl_leveled_j0 : List Bool := [false, true, true, false, false, false, false, false, false, false, false, false, false, false, false, false, false, false, false, false, false, false, false, false, false, false, false, false, false, false, false, false, false, false, false, false, false, false, false, false, false, false, false, false, false, false, false, false, false, false, false, false, false, false, false, false, false, false, false, false, false, false, false, false, false, false, false, false]
/-- heartwood/avl.leveled -/
def i_avl_leveled : Ev.Fn := ⟨1, 68, 4,
  (.seq
   (.reg [] [
     ⟨(some 1), .box 0 5 (.t 0), none, []⟩,
     ⟨(some 2), .new 1 [(.int .i64 0), (.slice none 0 0), (.slice none 0 0), (.slice none 0 0), (.slice none 0 0)], none, []⟩])
   (.seq
    (.reg [(1, 8), (2, 8), (3, 8), (5, 8), (6, 8), (7, 8), (1, 9), (2, 9), (3, 9), (5, 9), (6, 9), (7, 9), (8, 9), (5, 10), (6, 10), (7, 10)] [
      ⟨(some 6), .fa 4 (.t 1), none, []⟩,
      ⟨(some 7), .load false 1 (.t 6), none, []⟩,
      ⟨(some 8), .ia 5 (.t 7) (.k (.int .i64 0)), none, []⟩,
      ⟨(some 9), .load true 5 (.t 8), none, []⟩,
      ⟨(some 10), .fa 4 (.t 1), none, []⟩,
      ⟨(some 11), .load false 1 (.t 10), none, []⟩,
      ⟨(some 12), .ia 5 (.t 11) (.k (.int .i64 1)), none, []⟩,
      ⟨(some 13), .load true 5 (.t 12), none, []⟩,
      ⟨(some 3), .new 2 [(.int .i64 0), (.slice none 0 0), (.slice none 0 0), (.slice none 0 0), (.slice none 0 0)], none, []⟩,
      ⟨(some 4), .new 3 [(.int .i64 0), (.slice none 0 0), (.slice none 0 0), (.slice none 0 0), (.slice none 0 0)], none, []⟩,
      ⟨none, .store 5 (.t 3) (.t 9), none, []⟩,
      ⟨none, .store 5 (.t 4) (.t 13), none, []⟩])
    (.seq
     (.seq
      (.reg [] [
        ⟨(some 14), .load true 5 (.t 3), none, []⟩,
        ⟨(some 15), .qcall n_avl_depth [(.t 14)] [], none, []⟩,
        ⟨(some 16), .load true 5 (.t 4), none, []⟩,
        ⟨(some 17), .qcall n_avl_depth [(.t 16)] [], none, []⟩,
        ⟨(some 18), .bin .plain .sub (.t 15) (.t 17), none, []⟩,
        ⟨(some 5), .mv (.t 18), none, []⟩])
      (.block 0 i_avl_leveled_j0
       (.seq
        (.reg [] [
          ⟨(some 20), .mv (.t 5), none, []⟩,
          ⟨(some 21), .bin .plain .gtr (.t 20) (.k (.int .i64 1)), none, []⟩,
          ⟨(some 19), .mv (.t 21), none, []⟩])
        (.cond (.t 19)
         (.seq
          (.seq
           (.reg [] [
             ⟨(some 22), .fa 4 (.t 3), none, []⟩,
             ⟨(some 23), .load false 1 (.t 22), none, []⟩,
             ⟨(some 24), .ia 5 (.t 23) (.k (.int .i64 0)), none, []⟩,
             ⟨(some 25), .load true 5 (.t 24), none, []⟩,
             ⟨(some 26), .qcall n_avl_depth [(.t 25)] [], none, []⟩,
             ⟨(some 27), .fa 4 (.t 3), none, []⟩,
             ⟨(some 28), .load false 1 (.t 27), none, []⟩,
             ⟨(some 29), .ia 5 (.t 28) (.k (.int .i64 1)), none, []⟩,
             ⟨(some 30), .load true 5 (.t 29), none, []⟩,
             ⟨(some 31), .qcall n_avl_depth [(.t 30)] [], none, []⟩,
             ⟨(some 32), .bin .plain .lss (.t 26) (.t 31), none, []⟩])
           (.cond (.t 32)
            (.reg [] [
              ⟨(some 33), .load true 5 (.t 3), none, []⟩,
              ⟨(some 34), .qcall n_avl_left [(.t 33)] [], none, []⟩,
              ⟨(some 35), .fa 1 (.t 1), none, []⟩,
              ⟨(some 36), .load false 1 (.t 35), none, []⟩,
              ⟨(some 37), .fa 2 (.t 1), none, []⟩,
              ⟨(some 38), .load false 1 (.t 37), none, []⟩,
              ⟨(some 39), .load true 5 (.t 4), none, []⟩,
              ⟨(some 40), .qcall n_avl_node [(.t 34), (.t 36), (.t 38), (.t 39)] [], none, []⟩,
              ⟨none, .store 5 (.t 1) (.t 40), none, []⟩])
            .skip))
          (.seq
           (.reg [] [
             ⟨(some 41), .load true 5 (.t 1), none, []⟩,
             ⟨(some 42), .qcall n_avl_right [(.t 41)] [], none, []⟩,
             ⟨none, .store 5 (.t 2) (.t 42), none, []⟩])
           (.ret i_avl_leveled_r)))
         (.seq
          (.reg [] [
            ⟨(some 44), .mv (.t 5), none, []⟩,
            ⟨(some 45), .bin .plain .lss (.t 44) (.k (.int .i64 (-1))), none, []⟩,
            ⟨(some 43), .mv (.t 45), none, []⟩])
          (.cond (.t 43)
           (.seq
            (.seq
             (.reg [] [
               ⟨(some 46), .fa 4 (.t 4), none, []⟩,
               ⟨(some 47), .load false 1 (.t 46), none, []⟩,
               ⟨(some 48), .ia 5 (.t 47) (.k (.int .i64 1)), none, []⟩,
               ⟨(some 49), .load true 5 (.t 48), none, []⟩,
               ⟨(some 50), .qcall n_avl_depth [(.t 49)] [], none, []⟩,
               ⟨(some 51), .fa 4 (.t 4), none, []⟩,
               ⟨(some 52), .load false 1 (.t 51), none, []⟩,
               ⟨(some 53), .ia 5 (.t 52) (.k (.int .i64 0)), none, []⟩,
               ⟨(some 54), .load true 5 (.t 53), none, []⟩,
               ⟨(some 55), .qcall n_avl_depth [(.t 54)] [], none, []⟩,
               ⟨(some 56), .bin .plain .lss (.t 50) (.t 55), none, []⟩])
             (.cond (.t 56)
              (.reg [] [
                ⟨(some 57), .load true 5 (.t 3), none, []⟩,
                ⟨(some 58), .fa 1 (.t 1), none, []⟩,
                ⟨(some 59), .load false 1 (.t 58), none, []⟩,
                ⟨(some 60), .fa 2 (.t 1), none, []⟩,
                ⟨(some 61), .load false 1 (.t 60), none, []⟩,
                ⟨(some 62), .load true 5 (.t 4), none, []⟩,
                ⟨(some 63), .qcall n_avl_right [(.t 62)] [], none, []⟩,
                ⟨(some 64), .qcall n_avl_node [(.t 57), (.t 59), (.t 61), (.t 63)] [], none, []⟩,
                ⟨none, .store 5 (.t 1) (.t 64), none, []⟩])
              .skip))
            (.seq
             (.reg [] [
               ⟨(some 65), .load true 5 (.t 1), none, []⟩,
               ⟨(some 66), .qcall n_avl_left [(.t 65)] [], none, []⟩,
               ⟨none, .store 5 (.t 2) (.t 66), none, []⟩])
             (.ret i_avl_leveled_r)))
           .skip))))))
     (.seq
      (.reg [] [
        ⟨(some 67), .load true 5 (.t 1), none, []⟩,
        ⟨none, .store 5 (.t 2) (.t 67), none, []⟩])
      (.ret i_avl_leveled_r))))),
  [.cell 2 true 5], [], false, []⟩

def i_avl_depth_r : List Bool := [false, false, true, false, false, false, false, false, false, false, false]
/-- heartwood/avl.depth -/
def i_avl_depth : Ev.Fn := ⟨1, 11, 1,
  (.seq
   (.reg [] [
     ⟨(some 1), .box 0 5 (.t 0), none, []⟩,
     ⟨(some 2), .mv (.k (.int .i64 0)), none, []⟩])
   (.seq
    (.reg [] [
      ⟨(some 6), .load true 5 (.t 1), none, []⟩,
      ⟨(some 7), .qcall n_avl_even [(.t 6)] [], none, []⟩,
      ⟨(some 5), .mv (.t 7), none, []⟩,
      ⟨(some 8), .ext 0 (.t 5), none, []⟩,
      ⟨(some 9), .ext 1 (.t 5), none, []⟩,
      ⟨(some 3), .mv (.t 8), none, []⟩,
      ⟨(some 4), .mv (.t 9), none, []⟩])
    (.seq
     (.reg [] [
       ⟨(some 10), .mv (.t 3), none, []⟩,
       ⟨(some 2), .mv (.t 10), none, []⟩])
     (.ret i_avl_depth_r)))),
  [.tmp 2], [], false, []⟩

def i_avl_left_r : List Bool := [false, false, true, false, false, false, false, false, false, false, false, false, false, false, false, false, false, false, false, false, false, false, false, false, false, false, false, false, false, false]
/-- heartwood/avl.left -/
def i_avl_left : Ev.Fn := ⟨1, 30, 3,
  (.seq
   (.reg [] [
     ⟨(some 1), .box 0 5 (.t 0), none, []⟩,
     ⟨(some 2), .new 1 [(.int .i64 0), (.slice none 0 0), (.slice none 0 0), (.slice none 0 0), (.slice none 0 0)], none, []⟩])
   (.seq
    (.reg [] [
      ⟨(some 4), .fa 4 (.t 1), none, []⟩,
      ⟨(some 5), .load false 1 (.t 4), none, []⟩,
      ⟨(some 6), .ia 5 (.t 5) (.k (.int .i64 1)), none, []⟩,
      ⟨(some 7), .load true 5 (.t 6), none, []⟩,
      ⟨(some 3), .new 2 [(.int .i64 0), (.slice none 0 0), (.slice none 0 0), (.slice none 0 0), (.slice none 0 0)], none, []⟩,
      ⟨none, .store 5 (.t 3) (.t 7), none, []⟩])
    (.seq
     (.reg [] [
       ⟨(some 8), .fa 4 (.t 1), none, []⟩,
       ⟨(some 9), .load false 1 (.t 8), none, []⟩,
       ⟨(some 10), .ia 5 (.t 9) (.k (.int .i64 0)), none, []⟩,
       ⟨(some 11), .load true 5 (.t 10), none, []⟩,
       ⟨(some 12), .fa 1 (.t 1), none, []⟩,
       ⟨(some 13), .load false 1 (.t 12), none, []⟩,
       ⟨(some 14), .fa 2 (.t 1), none, []⟩,
       ⟨(some 15), .load false 1 (.t 14), none, []⟩,
       ⟨(some 16), .fa 4 (.t 3), none, []⟩,
       ⟨(some 17), .load false 1 (.t 16), none, []⟩,
       ⟨(some 18), .ia 5 (.t 17) (.k (.int .i64 0)), none, []⟩,
       ⟨(some 19), .load true 5 (.t 18), none, []⟩,
       ⟨(some 20), .qcall n_avl_node [(.t 11), (.t 13), (.t 15), (.t 19)] [], none, []⟩,
       ⟨(some 21), .fa 1 (.t 3), none, []⟩,
       ⟨(some 22), .load false 1 (.t 21), none, []⟩,
       ⟨(some 23), .fa 2 (.t 3), none, []⟩,
       ⟨(some 24), .load false 1 (.t 23), none, []⟩,
       ⟨(some 25), .fa 4 (.t 3), none, []⟩,
       ⟨(some 26), .load false 1 (.t 25), none, []⟩,
       ⟨(some 27), .ia 5 (.t 26) (.k (.int .i64 1)), none, []⟩,
       ⟨(some 28), .load true 5 (.t 27), none, []⟩,
       ⟨(some 29), .qcall n_avl_node [(.t 20), (.t 22), (.t 24), (.t 28)] [], none, []⟩,
       ⟨none, .store 5 (.t 2) (.t 29), none, []⟩])
     (.ret i_avl_left_r)))),
  [.cell 2 true 5], [], false, []⟩

def i_avl_right_r : List Bool := [false, false, true, false, false, false, false, false, false, false, false, false, false, false, false, false, false, false, false, false, false, false, false, false, false, false, false, false, false, false]
/-- heartwood/avl.right -/
def i_avl_right : Ev.Fn := ⟨1, 30, 3,
  (.seq
   (.reg [] [
     ⟨(some 1), .box 0 5 (.t 0), none, []⟩,
     ⟨(some 2), .new 1 [(.int .i64 0), (.slice none 0 0), (.slice none 0 0), (.slice none 0 0), (.slice none 0 0)], none, []⟩])
   (.seq
    (.reg [] [
      ⟨(some 4), .fa 4 (.t 1), none, []⟩,
      ⟨(some 5), .load false 1 (.t 4), none, []⟩,
      ⟨(some 6), .ia 5 (.t 5) (.k (.int .i64 0)), none, []⟩,
      ⟨(some 7), .load true 5 (.t 6), none, []⟩,
      ⟨(some 3), .new 2 [(.int .i64 0), (.slice none 0 0), (.slice none 0 0), (.slice none 0 0), (.slice none 0 0)], none, []⟩,
      ⟨none, .store 5 (.t 3) (.t 7), none, []⟩])
    (.seq
     (.reg [] [
       ⟨(some 8), .fa 4 (.t 3), none, []⟩,
       ⟨(some 9), .load false 1 (.t 8), none, []⟩,
       ⟨(some 10), .ia 5 (.t 9) (.k (.int .i64 0)), none, []⟩,
       ⟨(some 11), .load true 5 (.t 10), none, []⟩,
       ⟨(some 12), .fa 1 (.t 3), none, []⟩,
       ⟨(some 13), .load false 1 (.t 12), none, []⟩,
       ⟨(some 14), .fa 2 (.t 3), none, []⟩,
       ⟨(some 15), .load false 1 (.t 14), none, []⟩,
       ⟨(some 16), .fa 4 (.t 3), none, []⟩,
       ⟨(some 17), .load false 1 (.t 16), none, []⟩,
       ⟨(some 18), .ia 5 (.t 17) (.k (.int .i64 1)), none, []⟩,
       ⟨(some 19), .load true 5 (.t 18), none, []⟩,
       ⟨(some 20), .fa 1 (.t 1), none, []⟩,
       ⟨(some 21), .load false 1 (.t 20), none, []⟩,
       ⟨(some 22), .fa 2 (.t 1), none, []⟩,
       ⟨(some 23), .load false 1 (.t 22), none, []⟩,
       ⟨(some 24), .fa 4 (.t 1), none, []⟩,
       ⟨(some 25), .load false 1 (.t 24), none, []⟩,
       ⟨(some 26), .ia 5 (.t 25) (.k (.int .i64 1)), none, []⟩,
       ⟨(some 27), .load true 5 (.t 26), none, []⟩,
       ⟨(some 28), .qcall n_avl_node [(.t 19), (.t 21), (.t 23), (.t 27)] [], none, []⟩,
       ⟨(some 29), .qcall n_avl_node [(.t 11), (.t 13), (.t 15), (.t 28)] [], none, []⟩,
       ⟨none, .store 5 (.t 2) (.t 29), none, []⟩])
     (.ret i_avl_right_r)))),
  [.cell 2 true 5], [], false, []⟩

def i_avl_Get_r : List Bool := [false, false, false, false, true, true, true, false, false, false, false, false, false, false, false, false, false, false, false, false, false, false, false, false, false, false, false, false, false, false, false, false, false, false, false, false, false, false, false, false]
def i_avl_Get_j2 : List Bool := [false, true, true, false, false, false, false, false, false, false, false, false, false, false, false, false, false, false, false, false, false, false, false, false, false, false, false, false, false, false, false, false, false, false, false, false, false, false, false, false]
def i_avl_Get_j1 : List Bool := [false, true, true, false, false, false, false, false, false, false, false, false, false, false, false, false, false, false, false, false, false, false, false, false, false, false, false, false, false, false, false, false, false, false, false, false, false, false, false, false]
def i_avl_Get_k0 : List Bool := [false, true, true, false, false, false, false, false, false, false, false, false, false, false, false, false, false, false, false, false, false, false, false, false, false, false, false, false, false, false, false, false, false, false, false, false, false, false, false, false]
def i_avl_Get_j0 : List Bool := [false, false, false, false, false, false, false, false, false, false, false, false, false, false, false, false, false, false, false, false, false, false, false, false, false, false, false, false, false, false, false, false, false, false, false, false, false, false, false, false]
abbrev s_avl_Get_R (t4 t5 t6 : AV) (h : Heap) : St := ⟨[.undef, .undef, .undef, .undef, t4, t5, t6, .undef, .undef, .undef, .undef, .undef, .undef, .undef, .undef, .undef, .undef, .undef, .undef, .undef, .undef, .undef, .undef, .undef, .undef, .undef, .undef, .undef, .undef, .undef, .undef, .undef, .undef, .undef, .undef, .undef, .undef, .undef, .undef, .undef], h⟩
abbrev s_avl_Get_K0 (t1 t2 : AV) (h : Heap) : St := ⟨[.undef, t1, t2, .undef, .undef, .undef, .undef, .undef, .undef, .undef, .undef, .undef, .undef, .undef, .undef, .undef, .undef, .undef, .undef, .undef, .undef, .undef, .undef, .undef, .undef, .undef, .undef, .undef, .undef, .undef, .undef, .undef, .undef, .undef, .undef, .undef, .undef, .undef, .undef, .undef], h⟩
def i_avl_Get_b0 : IR :=
  (.seq
   (.seq
    (.reg [] [
      ⟨(some 15), .fa 4 (.t 2), none, []⟩,
      ⟨(some 16), .load false 1 (.t 15), none, []⟩,
      ⟨(some 17), .len false (.t 16), none, []⟩,
      ⟨(some 18), .bin .plain .gtr (.t 17) (.k (.int .i64 0)), none, []⟩])
    (.cond (.t 18)
     .skip
     (.exit 0 i_avl_Get_j0)))
   (.block 1 i_avl_Get_j1
    (.seq
     (.reg [] [
       ⟨(some 19), .cn (.t 1), none, []⟩,
       ⟨(some 20), .fa 1 (.t 2), none, []⟩,
       ⟨(some 21), .load false 1 (.t 20), none, []⟩,
       ⟨(some 22), .qcall n_bytes_Compare [(.t 19), (.t 21)] [], none, []⟩,
       ⟨(some 8), .mv (.t 22), none, []⟩])
     (.block 2 i_avl_Get_j2
      (.seq
       (.reg [] [
         ⟨(some 28), .mv (.t 8), none, []⟩,
         ⟨(some 29), .bin .plain .eql (.t 28) (.k (.int .i64 0)), none, []⟩,
         ⟨(some 27), .mv (.t 29), none, []⟩])
       (.cond (.t 27)
        (.seq
         (.reg [] [
           ⟨(some 30), .fa 2 (.t 2), none, []⟩,
           ⟨(some 31), .load false 1 (.t 30), none, []⟩,
           ⟨(some 32), .qcall n_slices_Clone_sl_byte_byte [(.t 31)] [], none, []⟩,
           ⟨(some 4), .cn (.t 32), none, []⟩,
           ⟨(some 5), .mv (.k (.bool true)), none, []⟩,
           ⟨(some 6), .mv (.k .nilIface), none, []⟩])
         (.ret i_avl_Get_r))
        (.seq
         (.reg [] [
           ⟨(some 34), .mv (.t 8), none, []⟩,
           ⟨(some 35), .bin .plain .lss (.t 34) (.k (.int .i64 0)), none, []⟩,
           ⟨(some 33), .mv (.t 35), none, []⟩])
         (.cond (.t 33)
          (.reg [] [
            ⟨(some 36), .fa 4 (.t 2), none, []⟩,
            ⟨(some 37), .load false 1 (.t 36), none, []⟩,
            ⟨(some 38), .ia 5 (.t 37) (.k (.int .i64 0)), none, []⟩,
            ⟨(some 39), .load true 5 (.t 38), none, []⟩,
            ⟨none, .store 5 (.t 2) (.t 39), none, []⟩])
          (.reg [] [
            ⟨(some 23), .fa 4 (.t 2), none, []⟩,
            ⟨(some 24), .load false 1 (.t 23), none, []⟩,
            ⟨(some 25), .ia 5 (.t 24) (.k (.int .i64 1)), none, []⟩,
            ⟨(some 26), .load true 5 (.t 25), none, []⟩,
            ⟨none, .store 5 (.t 2) (.t 26), none, []⟩])))))))))

abbrev s_avl_Get_J0 (h : Heap) : St := ⟨[.undef, .undef, .undef, .undef, .undef, .undef, .undef, .undef, .undef, .undef, .undef, .undef, .undef, .undef, .undef, .undef, .undef, .undef, .undef, .undef, .undef, .undef, .undef, .undef, .undef, .undef, .undef, .undef, .undef, .undef, .undef, .undef, .undef, .undef, .undef, .undef, .undef, .undef, .undef, .undef], h⟩
/-- heartwood/avl.Get -/
def i_avl_Get : Ev.Fn := ⟨2, 40, 1,
  (.seq
   (.reg [] [
     ⟨(some 2), .box 0 5 (.t 0), none, []⟩,
     ⟨(some 4), .cn (.k (.slice none 0 0)), none, []⟩,
     ⟨(some 5), .mv (.k (.bool false)), none, []⟩,
     ⟨(some 6), .mv (.k .nilIface), none, []⟩])
   (.seq
    (.seq
     (.reg [] [
       ⟨(some 9), .load true 5 (.t 2), none, []⟩,
       ⟨(some 10), .cn (.t 1), none, []⟩,
       ⟨(some 11), .qcall n_avl_asked [(.t 9), (.t 10), (.k (.slice none 0 0))] [], none, []⟩,
       ⟨(some 7), .mv (.t 11), none, []⟩])
     (.seq
      (.reg [] [
        ⟨(some 12), .mv (.t 7), none, []⟩,
        ⟨(some 13), .bin (.iface ty_api_Code true) .neq (.t 12) (.k .nilIface), none, []⟩])
      (.cond (.t 13)
       (.seq
        (.reg [] [
          ⟨(some 14), .mv (.t 7), none, []⟩,
          ⟨(some 4), .cn (.k (.slice none 0 0)), none, []⟩,
          ⟨(some 5), .mv (.k (.bool false)), none, []⟩,
          ⟨(some 6), .mv (.t 14), none, []⟩])
        (.ret i_avl_Get_r))
       .skip)))
    (.seq
     (.block 0 i_avl_Get_j0
      (.loop i_avl_Get_k0 i_avl_Get_b0))
     (.seq
      (.reg [] [
        ⟨(some 4), .cn (.k (.slice none 0 0)), none, []⟩,
        ⟨(some 5), .mv (.k (.bool false)), none, []⟩,
        ⟨(some 6), .mv (.k .nilIface), none, []⟩])
      (.ret i_avl_Get_r))))),
  [.tmp 4, .tmp 5, .tmp 6], [], false, []⟩

def i_avl_Delete_r : List Bool := [false, false, false, false, true, true, true, false, false, false, false, false, false, false, false, false, false, false, false, false, false, false, false, false, false, false, false, false, false]
def i_avl_Delete_j0 : List Bool := [false, true, true, false, true, false, false, false, false, false, false, false, false, false, false, false, false, false, false, false, false, false, false, false, false, false, false, false, false]
/-- heartwood/avl.Delete -/
def i_avl_Delete : Ev.Fn := ⟨2, 29, 2,
  (.seq
   (.reg [] [
     ⟨(some 2), .box 0 5 (.t 0), none, []⟩,
     ⟨(some 4), .new 1 [(.int .i64 0), (.slice none 0 0), (.slice none 0 0), (.slice none 0 0), (.slice none 0 0)], none, []⟩,
     ⟨(some 5), .mv (.k (.bool false)), none, []⟩,
     ⟨(some 6), .mv (.k .nilIface), none, []⟩])
   (.seq
    (.reg [] [
      ⟨(some 11), .load true 5 (.t 2), none, []⟩,
      ⟨(some 12), .cn (.t 1), none, []⟩,
      ⟨(some 13), .qcall n_avl_Get [(.t 11), (.t 12)] [], none, []⟩,
      ⟨(some 10), .mv (.t 13), none, []⟩,
      ⟨(some 14), .ext 0 (.t 10), none, []⟩,
      ⟨(some 15), .ext 1 (.t 10), none, []⟩,
      ⟨(some 16), .ext 2 (.t 10), none, []⟩,
      ⟨(some 7), .cn (.t 14), none, []⟩,
      ⟨(some 8), .mv (.t 15), none, []⟩,
      ⟨(some 9), .mv (.t 16), none, []⟩])
    (.seq
     (.block 0 i_avl_Delete_j0
      (.seq
       (.reg [] [
         ⟨(some 18), .mv (.t 9), none, []⟩,
         ⟨(some 19), .bin (.iface ty_api_Code true) .neq (.t 18) (.k .nilIface), none, []⟩,
         ⟨(some 17), .mv (.t 19), none, []⟩])
       (.cond (.t 17)
        (.seq
         (.reg [] [
           ⟨(some 20), .build [(.int .i64 0), (.slice none 0 0), (.slice none 0 0), (.slice none 0 0), (.slice none 0 0)] [], none, []⟩,
           ⟨(some 21), .mv (.t 9), none, []⟩,
           ⟨none, .store 5 (.t 4) (.t 20), none, []⟩,
           ⟨(some 5), .mv (.k (.bool false)), none, []⟩,
           ⟨(some 6), .mv (.t 21), none, []⟩])
         (.ret i_avl_Delete_r))
        (.seq
         (.reg [] [
           ⟨(some 23), .mv (.t 8), none, []⟩,
           ⟨(some 24), .un .not (.t 23), none, []⟩,
           ⟨(some 22), .mv (.t 24), none, []⟩])
         (.cond (.t 22)
          (.seq
           (.reg [] [
             ⟨(some 25), .load true 5 (.t 2), none, []⟩,
             ⟨none, .store 5 (.t 4) (.t 25), none, []⟩,
             ⟨(some 5), .mv (.k (.bool false)), none, []⟩,
             ⟨(some 6), .mv (.k .nilIface), none, []⟩])
           (.ret i_avl_Delete_r))
          .skip)))))
     (.seq
      (.reg [] [
        ⟨(some 26), .load true 5 (.t 2), none, []⟩,
        ⟨(some 27), .cn (.t 1), none, []⟩,
        ⟨(some 28), .qcall n_avl_take [(.t 26), (.t 27)] [], none, []⟩,
        ⟨none, .store 5 (.t 4) (.t 28), none, []⟩,
        ⟨(some 5), .mv (.k (.bool true)), none, []⟩,
        ⟨(some 6), .mv (.k .nilIface), none, []⟩])
      (.ret i_avl_Delete_r))))),
  [.cell 4 true 5, .tmp 5, .tmp 6], [], false, []⟩

def i_avl_take_r : List Bool := [false, false, false, false, true, false, false, false, false, false, false, false, false, false, false, false, false, false, false, false, false, false, false, false, false, false, false, false, false, false, false, false, false, false, false, false, false, false, false, false, false, false, false, false, false, false, false, false, false, false, false, false, false, false, false, false, false, false, false, false, false, false, false, false, false, false, false, false, false, false, false, false, false, false, false, false, false, false, false, false, false, false, false, false, false, false, false]
def i_avl_take_j0 : List Bool := [false, false, false, false, true, true, true, false, false, false, false, false, false, false, false, false, false, false, false, false, false, false, false, false, false, false, false, false, false, false, false, false, false, false, false, false, false, false, false, false, false, false, false, false, false, false, false, false, false, false, false, false, false, false, false, false, false, false, false, false, false, false, false, false, false, false, false, false, false, false, false, false, false, false, false, false, false, false, false, false, false, false, false, false, false, false, false]
def i_avl_take_j2 : List Bool := [false, false, false, false, true, true, true, false, true, false, false, false, false, false, false, false, false, false, false, false, false, false, false, false, false, false, false, false, false, false, false, false, false, false, false, false, false, false, false, false, false, false, false, false, false, false, false, false, false, false, false, false, false, false, false, false, false, false, false, false, false, false, false, false, false, false, false, false, false, false, false, false, false, false, false, false, false, false, false, false, false, false, false, false, false, false, false]
def i_avl_take_k0 : List Bool := [false, false, false, false, true, true, true, false, true, false, false, false, false, false, false, false, false, false, false, false, false, false, false, false, false, false, false, false, false, false, false, false, false, false, false, false, false, false, false, false, false, false, false, false, false, false, false, false, false, false, false, false, false, false, false, false, false, false, false, false, false, false, false, false, false, false, false, false, false, false, false, false, false, false, false, false, false, false, false, false, false, false, false, false, false, false, false]
def i_avl_take_j1 : List Bool := [false, false, false, false, true, true, true, false, true, false, false, false, false, false, false, false, false, false, false, false, false, false, false, false, false, false, false, false, false, false, false, false, false, false, false, false, false, false, false, false, false, false, false, false, false, false, false, false, false, false, false, false, false, false, false, false, false, false, false, false, false, false, false, false, false, false, false, false, false, false, false, false, false, false, false, false, false, false, false, false, false, false, false, false, false, false, false]
abbrev s_avl_take_R (t4 : AV) (h : Heap) : St := ⟨[.undef, .undef, .undef, .undef, t4, .undef, .undef, .undef, .undef, .undef, .undef, .undef, .undef, .undef, .undef, .undef, .undef, .undef, .undef, .undef, .undef, .undef, .undef, .undef, .undef, .undef, .undef, .undef, .undef, .undef, .undef, .undef, .undef, .undef, .undef, .undef, .undef, .undef, .undef, .undef, .undef, .undef, .undef, .undef, .undef, .undef, .undef, .undef, .undef, .undef, .undef, .undef, .undef, .undef, .undef, .undef, .undef, .undef, .undef, .undef, .undef, .undef, .undef, .undef, .undef, .undef, .undef, .undef, .undef, .undef, .undef, .undef, .undef, .undef, .undef, .undef, .undef, .undef, .undef, .undef, .undef, .undef, .undef, .undef, .undef, .undef, .undef], h⟩
abbrev s_avl_take_K0 (t4 t5 t6 t8 : AV) (h : Heap) : St := ⟨[.undef, .undef, .undef, .undef, t4, t5, t6, .undef, t8, .undef, .undef, .undef, .undef, .undef, .undef, .undef, .undef, .undef, .undef, .undef, .undef, .undef, .undef, .undef, .undef, .undef, .undef, .undef, .undef, .undef, .undef, .undef, .undef, .undef, .undef, .undef, .undef, .undef, .undef, .undef, .undef, .undef, .undef, .undef, .undef, .undef, .undef, .undef, .undef, .undef, .undef, .undef, .undef, .undef, .undef, .undef, .undef, .undef, .undef, .undef, .undef, .undef, .undef, .undef, .undef, .undef, .undef, .undef, .undef, .undef, .undef, .undef, .undef, .undef, .undef, .undef, .undef, .undef, .undef, .undef, .undef, .undef, .undef, .undef, .undef, .undef, .undef], h⟩
def i_avl_take_b0 : IR :=
  (.seq
   (.seq
    (.reg [] [
      ⟨(some 65), .fa 4 (.t 8), none, []⟩,
      ⟨(some 66), .load false 1 (.t 65), none, []⟩,
      ⟨(some 67), .ia 5 (.t 66) (.k (.int .i64 0)), none, []⟩,
      ⟨(some 68), .fa 4 (.t 67), none, []⟩,
      ⟨(some 69), .load false 1 (.t 68), none, []⟩,
      ⟨(some 70), .len false (.t 69), none, []⟩,
      ⟨(some 71), .bin .plain .gtr (.t 70) (.k (.int .i64 0)), none, []⟩])
    (.cond (.t 71)
     .skip
     (.exit 1 i_avl_take_j1)))
   (.block 2 i_avl_take_j2
    (.reg [] [
      ⟨(some 72), .fa 4 (.t 8), none, []⟩,
      ⟨(some 73), .load false 1 (.t 72), none, []⟩,
      ⟨(some 74), .ia 5 (.t 73) (.k (.int .i64 0)), none, []⟩,
      ⟨(some 75), .load true 5 (.t 74), none, []⟩,
      ⟨none, .store 5 (.t 8) (.t 75), none, []⟩])))

abbrev s_avl_take_J1 (t4 t5 t6 t8 : AV) (h : Heap) : St := ⟨[.undef, .undef, .undef, .undef, t4, t5, t6, .undef, t8, .undef, .undef, .undef, .undef, .undef, .undef, .undef, .undef, .undef, .undef, .undef, .undef, .undef, .undef, .undef, .undef, .undef, .undef, .undef, .undef, .undef, .undef, .undef, .undef, .undef, .undef, .undef, .undef, .undef, .undef, .undef, .undef, .undef, .undef, .undef, .undef, .undef, .undef, .undef, .undef, .undef, .undef, .undef, .undef, .undef, .undef, .undef, .undef, .undef, .undef, .undef, .undef, .undef, .undef, .undef, .undef, .undef, .undef, .undef, .undef, .undef, .undef, .undef, .undef, .undef, .undef, .undef, .undef, .undef, .undef, .undef, .undef, .undef, .undef, .undef, .undef, .undef, .undef], h⟩
/-- heartwood/avl.take -/
def i_avl_take : Ev.Fn := ⟨2, 87, 5,
  (.seq
   (.reg [] [
     ⟨(some 2), .box 0 5 (.t 0), none, []⟩,
     ⟨(some 4), .new 1 [(.int .i64 0), (.slice none 0 0), (.slice none 0 0), (.slice none 0 0), (.slice none 0 0)], none, []⟩])
   (.seq
    (.seq
     (.reg [] [
       ⟨(some 9), .fa 4 (.t 2), none, []⟩,
       ⟨(some 10), .load false 1 (.t 9), none, []⟩,
       ⟨(some 11), .len false (.t 10), none, []⟩,
       ⟨(some 12), .bin .plain .eql (.t 11) (.k (.int .i64 0)), none, []⟩])
     (.cond (.t 12)
      (.seq
       (.reg [] [
         ⟨(some 13), .load true 5 (.t 2), none, []⟩,
         ⟨none, .store 5 (.t 4) (.t 13), none, []⟩])
       (.ret i_avl_take_r))
      .skip))
    (.seq
     (.reg [(1, 8), (2, 8), (3, 8), (5, 8), (6, 8), (7, 8), (1, 9), (2, 9), (3, 9), (5, 9), (6, 9), (7, 9), (8, 9), (5, 10), (6, 10), (7, 10)] [
       ⟨(some 14), .fa 4 (.t 2), none, []⟩,
       ⟨(some 15), .load false 1 (.t 14), none, []⟩,
       ⟨(some 16), .ia 5 (.t 15) (.k (.int .i64 0)), none, []⟩,
       ⟨(some 17), .load true 5 (.t 16), none, []⟩,
       ⟨(some 18), .fa 4 (.t 2), none, []⟩,
       ⟨(some 19), .load false 1 (.t 18), none, []⟩,
       ⟨(some 20), .ia 5 (.t 19) (.k (.int .i64 1)), none, []⟩,
       ⟨(some 21), .load true 5 (.t 20), none, []⟩,
       ⟨(some 5), .new 2 [(.int .i64 0), (.slice none 0 0), (.slice none 0 0), (.slice none 0 0), (.slice none 0 0)], none, []⟩,
       ⟨(some 6), .new 3 [(.int .i64 0), (.slice none 0 0), (.slice none 0 0), (.slice none 0 0), (.slice none 0 0)], none, []⟩,
       ⟨none, .store 5 (.t 5) (.t 17), none, []⟩,
       ⟨none, .store 5 (.t 6) (.t 21), none, []⟩])
     (.seq
      (.seq
       (.reg [] [
         ⟨(some 22), .cn (.t 1), none, []⟩,
         ⟨(some 23), .fa 1 (.t 2), none, []⟩,
         ⟨(some 24), .load false 1 (.t 23), none, []⟩,
         ⟨(some 25), .qcall n_bytes_Compare [(.t 22), (.t 24)] [], none, []⟩,
         ⟨(some 7), .mv (.t 25), none, []⟩])
       (.block 0 i_avl_take_j0
        (.seq
         (.reg [] [
           ⟨(some 27), .mv (.t 7), none, []⟩,
           ⟨(some 28), .bin .plain .lss (.t 27) (.k (.int .i64 0)), none, []⟩,
           ⟨(some 26), .mv (.t 28), none, []⟩])
         (.cond (.t 26)
          (.seq
           (.reg [] [
             ⟨(some 29), .load true 5 (.t 5), none, []⟩,
             ⟨(some 30), .cn (.t 1), none, []⟩,
             ⟨(some 31), .qcall n_avl_take [(.t 29), (.t 30)] [], none, []⟩,
             ⟨(some 32), .fa 1 (.t 2), none, []⟩,
             ⟨(some 33), .load false 1 (.t 32), none, []⟩,
             ⟨(some 34), .fa 2 (.t 2), none, []⟩,
             ⟨(some 35), .load false 1 (.t 34), none, []⟩,
             ⟨(some 36), .load true 5 (.t 6), none, []⟩,
             ⟨(some 37), .qcall n_avl_node [(.t 31), (.t 33), (.t 35), (.t 36)] [], none, []⟩,
             ⟨(some 38), .qcall n_avl_leveled [(.t 37)] [], none, []⟩,
             ⟨none, .store 5 (.t 4) (.t 38), none, []⟩])
           (.ret i_avl_take_r))
          (.seq
           (.reg [] [
             ⟨(some 40), .mv (.t 7), none, []⟩,
             ⟨(some 41), .bin .plain .gtr (.t 40) (.k (.int .i64 0)), none, []⟩,
             ⟨(some 39), .mv (.t 41), none, []⟩])
           (.cond (.t 39)
            (.seq
             (.reg [] [
               ⟨(some 42), .load true 5 (.t 5), none, []⟩,
               ⟨(some 43), .fa 1 (.t 2), none, []⟩,
               ⟨(some 44), .load false 1 (.t 43), none, []⟩,
               ⟨(some 45), .fa 2 (.t 2), none, []⟩,
               ⟨(some 46), .load false 1 (.t 45), none, []⟩,
               ⟨(some 47), .load true 5 (.t 6), none, []⟩,
               ⟨(some 48), .cn (.t 1), none, []⟩,
               ⟨(some 49), .qcall n_avl_take [(.t 47), (.t 48)] [], none, []⟩,
               ⟨(some 50), .qcall n_avl_node [(.t 42), (.t 44), (.t 46), (.t 49)] [], none, []⟩,
               ⟨(some 51), .qcall n_avl_leveled [(.t 50)] [], none, []⟩,
               ⟨none, .store 5 (.t 4) (.t 51), none, []⟩])
             (.ret i_avl_take_r))
            (.seq
             (.reg [] [
               ⟨(some 53), .fa 4 (.t 5), none, []⟩,
               ⟨(some 54), .load false 1 (.t 53), none, []⟩,
               ⟨(some 55), .len false (.t 54), none, []⟩,
               ⟨(some 56), .bin .plain .eql (.t 55) (.k (.int .i64 0)), none, []⟩,
               ⟨(some 52), .mv (.t 56), none, []⟩])
             (.cond (.t 52)
              (.seq
               (.reg [] [
                 ⟨(some 57), .load true 5 (.t 6), none, []⟩,
                 ⟨none, .store 5 (.t 4) (.t 57), none, []⟩])
               (.ret i_avl_take_r))
              (.seq
               (.reg [] [
                 ⟨(some 59), .fa 4 (.t 6), none, []⟩,
                 ⟨(some 60), .load false 1 (.t 59), none, []⟩,
                 ⟨(some 61), .len false (.t 60), none, []⟩,
                 ⟨(some 62), .bin .plain .eql (.t 61) (.k (.int .i64 0)), none, []⟩,
                 ⟨(some 58), .mv (.t 62), none, []⟩])
               (.cond (.t 58)
                (.seq
                 (.reg [] [
                   ⟨(some 63), .load true 5 (.t 5), none, []⟩,
                   ⟨none, .store 5 (.t 4) (.t 63), none, []⟩])
                 (.ret i_avl_take_r))
                .skip))))))))))
      (.seq
       (.reg [] [
         ⟨(some 64), .load true 5 (.t 6), none, []⟩,
         ⟨(some 8), .new 4 [(.int .i64 0), (.slice none 0 0), (.slice none 0 0), (.slice none 0 0), (.slice none 0 0)], none, []⟩,
         ⟨none, .store 5 (.t 8) (.t 64), none, []⟩])
       (.seq
        (.block 1 i_avl_take_j1
         (.loop i_avl_take_k0 i_avl_take_b0))
        (.seq
         (.reg [] [
           ⟨(some 76), .load true 5 (.t 5), none, []⟩,
           ⟨(some 77), .fa 1 (.t 8), none, []⟩,
           ⟨(some 78), .load false 1 (.t 77), none, []⟩,
           ⟨(some 79), .fa 2 (.t 8), none, []⟩,
           ⟨(some 80), .load false 1 (.t 79), none, []⟩,
           ⟨(some 81), .load true 5 (.t 6), none, []⟩,
           ⟨(some 82), .fa 1 (.t 8), none, []⟩,
           ⟨(some 83), .load false 1 (.t 82), none, []⟩,
           ⟨(some 84), .qcall n_avl_take [(.t 81), (.t 83)] [], none, []⟩,
           ⟨(some 85), .qcall n_avl_node [(.t 76), (.t 78), (.t 80), (.t 84)] [], none, []⟩,
           ⟨(some 86), .qcall n_avl_leveled [(.t 85)] [], none, []⟩,
           ⟨none, .store 5 (.t 4) (.t 86), none, []⟩])
         (.ret i_avl_take_r)))))))),
  [.cell 4 true 5], [], false, []⟩

def i_ref04_List_r : List Bool := [false, false, true, false, false, false, false, false, false, false, false, false, false, false, false, false, false, false, false, false, false, false, false, false, false, false]
/-- heartwood/heartwoodref04.List -/
def i_ref04_List : Ev.Fn := ⟨1, 26, 2,
  (.seq
   (.reg [] [
     ⟨(some 1), .box 0 5 (.t 0), none, []⟩,
     ⟨(some 2), .cn (.k (.slice none 0 0)), none, []⟩])
   (.seq
    (.seq
     (.reg [] [
       ⟨(some 4), .fa 4 (.t 1), none, []⟩,
       ⟨(some 5), .load false 1 (.t 4), none, []⟩,
       ⟨(some 6), .len false (.t 5), none, []⟩,
       ⟨(some 7), .bin .plain .eql (.t 6) (.k (.int .i64 0)), none, []⟩])
     (.cond (.t 7)
      (.seq
       (.reg [] [
         ⟨(some 2), .cn (.k (.slice none 0 0)), none, []⟩])
       (.ret i_ref04_List_r))
      .skip))
    (.seq
     (.reg [] [
       ⟨(some 8), .lit 1 ty_api_Tree 5 0 [(.int .i64 0), (.slice none 0 0), (.slice none 0 0), (.slice none 0 0), (.slice none 0 0)] [], none, []⟩,
       ⟨(some 9), .fa 4 (.t 1), none, []⟩,
       ⟨(some 10), .load false 1 (.t 9), none, []⟩,
       ⟨(some 11), .ia 5 (.t 10) (.k (.int .i64 0)), none, []⟩,
       ⟨(some 12), .load true 5 (.t 11), none, []⟩,
       ⟨(some 13), .qcall n_ref04_List [(.t 12)] [], none, []⟩,
       ⟨(some 14), .app 1 ty_api_Tree 5 104 (.t 8) (.t 13), none, []⟩,
       ⟨(some 3), .mv (.t 14), none, []⟩])
     (.seq
      (.reg [] [
        ⟨(some 15), .mv (.t 3), none, []⟩,
        ⟨(some 16), .load true 5 (.t 1), none, []⟩,
        ⟨(some 17), .litd 5 1 [(.int .i64 0), (.slice none 0 0), (.slice none 0 0), (.slice none 0 0), (.slice none 0 0)] [(0, (.t 16))], none, []⟩,
        ⟨(some 18), .app 1 ty_api_Tree 5 104 (.t 15) (.t 17), none, []⟩,
        ⟨(some 3), .mv (.t 18), none, []⟩])
      (.seq
       (.reg [] [
         ⟨(some 19), .mv (.t 3), none, []⟩,
         ⟨(some 20), .fa 4 (.t 1), none, []⟩,
         ⟨(some 21), .load false 1 (.t 20), none, []⟩,
         ⟨(some 22), .ia 5 (.t 21) (.k (.int .i64 1)), none, []⟩,
         ⟨(some 23), .load true 5 (.t 22), none, []⟩,
         ⟨(some 24), .qcall n_ref04_List [(.t 23)] [], none, []⟩,
         ⟨(some 25), .app 1 ty_api_Tree 5 104 (.t 19) (.t 24), none, []⟩,
         ⟨(some 2), .cn (.t 25), none, [25]⟩])
       (.ret i_ref04_List_r)))))),
  [.tmp 2], [], false, []⟩

def tab (f : Nat) : Option Ev.Fn := match f with
  | 17 => some i_law05_AvlHolds
  | 33 => some i_law05_up
  | 39 => some i_avl_Put
  | 59 => some i_avl_asked
  | 35 => some i_avl_Is
  | 57 => some i_tree_Full
  | 63 => some i_tree_Check
  | 86 => some i_tree_deep
  | 99 => some i_tree_deep_1
  | 94 => some i_slices_ContainsFunc_sl_api_Tree_api_Tree
  | 104 => some i_slices_IndexFunc_sl_api_Tree_api_Tree
  | 87 => some i_tree_formed
  | 100 => some i_tree_formed_1
  | 80 => some i_tree_full
  | 95 => some i_tree_full_1
  | 53 => some i_tree_List
  | 77 => some i_tree_List_1
  | 52 => some i_bytes_Compare
  | 58 => some i_avl_even
  | 50 => some i_slices_Clone_sl_byte_byte
  | 60 => some i_avl_put
  | 81 => some i_avl_node
  | 82 => some i_avl_leveled
  | 96 => some i_avl_depth
  | 97 => some i_avl_left
  | 98 => some i_avl_right
  | 36 => some i_avl_Get
  | 47 => some i_avl_Delete
  | 75 => some i_avl_take
  | 49 => some i_ref04_List
  | _ => none
theorem t_law05_AvlHolds : tab n_law05_AvlHolds = some i_law05_AvlHolds := rfl
theorem t_law05_up : tab n_law05_up = some i_law05_up := rfl
theorem t_avl_Put : tab n_avl_Put = some i_avl_Put := rfl
theorem t_avl_asked : tab n_avl_asked = some i_avl_asked := rfl
theorem t_avl_Is : tab n_avl_Is = some i_avl_Is := rfl
theorem t_tree_Full : tab n_tree_Full = some i_tree_Full := rfl
theorem t_tree_Check : tab n_tree_Check = some i_tree_Check := rfl
theorem t_tree_deep : tab n_tree_deep = some i_tree_deep := rfl
theorem t_tree_deep_1 : tab n_tree_deep_1 = some i_tree_deep_1 := rfl
theorem t_slices_ContainsFunc_sl_api_Tree_api_Tree : tab n_slices_ContainsFunc_sl_api_Tree_api_Tree = some i_slices_ContainsFunc_sl_api_Tree_api_Tree := rfl
theorem t_slices_IndexFunc_sl_api_Tree_api_Tree : tab n_slices_IndexFunc_sl_api_Tree_api_Tree = some i_slices_IndexFunc_sl_api_Tree_api_Tree := rfl
theorem t_tree_formed : tab n_tree_formed = some i_tree_formed := rfl
theorem t_tree_formed_1 : tab n_tree_formed_1 = some i_tree_formed_1 := rfl
theorem t_tree_full : tab n_tree_full = some i_tree_full := rfl
theorem t_tree_full_1 : tab n_tree_full_1 = some i_tree_full_1 := rfl
theorem t_tree_List : tab n_tree_List = some i_tree_List := rfl
theorem t_tree_List_1 : tab n_tree_List_1 = some i_tree_List_1 := rfl
theorem t_bytes_Compare : tab n_bytes_Compare = some i_bytes_Compare := rfl
theorem t_avl_even : tab n_avl_even = some i_avl_even := rfl
theorem t_slices_Clone_sl_byte_byte : tab n_slices_Clone_sl_byte_byte = some i_slices_Clone_sl_byte_byte := rfl
theorem t_avl_put : tab n_avl_put = some i_avl_put := rfl
theorem t_avl_node : tab n_avl_node = some i_avl_node := rfl
theorem t_avl_leveled : tab n_avl_leveled = some i_avl_leveled := rfl
theorem t_avl_depth : tab n_avl_depth = some i_avl_depth := rfl
theorem t_avl_left : tab n_avl_left = some i_avl_left := rfl
theorem t_avl_right : tab n_avl_right = some i_avl_right := rfl
theorem t_avl_Get : tab n_avl_Get = some i_avl_Get := rfl
theorem t_avl_Delete : tab n_avl_Delete = some i_avl_Delete := rfl
theorem t_avl_take : tab n_avl_take = some i_avl_take := rfl
theorem t_ref04_List : tab n_ref04_List = some i_ref04_List := rfl
def G0 : Cf := ⟨fun _ => [], true⟩
theorem G0_gf : G0.gf = true := rfl
attribute [go_sem] G0_gf
theorem lt_law05_AvlHolds : (n_law05_AvlHolds < 1000000) = True := eq_true (by decide)
attribute [go_sem] lt_law05_AvlHolds
theorem lt_law05_up : (n_law05_up < 1000000) = True := eq_true (by decide)
attribute [go_sem] lt_law05_up
theorem lt_avl_Put : (n_avl_Put < 1000000) = True := eq_true (by decide)
attribute [go_sem] lt_avl_Put
theorem lt_avl_asked : (n_avl_asked < 1000000) = True := eq_true (by decide)
attribute [go_sem] lt_avl_asked
theorem lt_avl_Is : (n_avl_Is < 1000000) = True := eq_true (by decide)
attribute [go_sem] lt_avl_Is
theorem lt_tree_Full : (n_tree_Full < 1000000) = True := eq_true (by decide)
attribute [go_sem] lt_tree_Full
theorem lt_tree_Check : (n_tree_Check < 1000000) = True := eq_true (by decide)
attribute [go_sem] lt_tree_Check
theorem lt_tree_deep : (n_tree_deep < 1000000) = True := eq_true (by decide)
attribute [go_sem] lt_tree_deep
theorem lt_tree_deep_1 : (n_tree_deep_1 < 1000000) = True := eq_true (by decide)
attribute [go_sem] lt_tree_deep_1
theorem lt_slices_ContainsFunc_sl_api_Tree_api_Tree : (n_slices_ContainsFunc_sl_api_Tree_api_Tree < 1000000) = True := eq_true (by decide)
attribute [go_sem] lt_slices_ContainsFunc_sl_api_Tree_api_Tree
theorem lt_slices_IndexFunc_sl_api_Tree_api_Tree : (n_slices_IndexFunc_sl_api_Tree_api_Tree < 1000000) = True := eq_true (by decide)
attribute [go_sem] lt_slices_IndexFunc_sl_api_Tree_api_Tree
theorem lt_tree_formed : (n_tree_formed < 1000000) = True := eq_true (by decide)
attribute [go_sem] lt_tree_formed
theorem lt_tree_formed_1 : (n_tree_formed_1 < 1000000) = True := eq_true (by decide)
attribute [go_sem] lt_tree_formed_1
theorem lt_tree_full : (n_tree_full < 1000000) = True := eq_true (by decide)
attribute [go_sem] lt_tree_full
theorem lt_tree_full_1 : (n_tree_full_1 < 1000000) = True := eq_true (by decide)
attribute [go_sem] lt_tree_full_1
theorem lt_tree_List : (n_tree_List < 1000000) = True := eq_true (by decide)
attribute [go_sem] lt_tree_List
theorem lt_tree_List_1 : (n_tree_List_1 < 1000000) = True := eq_true (by decide)
attribute [go_sem] lt_tree_List_1
theorem lt_bytes_Compare : (n_bytes_Compare < 1000000) = True := eq_true (by decide)
attribute [go_sem] lt_bytes_Compare
theorem lt_avl_even : (n_avl_even < 1000000) = True := eq_true (by decide)
attribute [go_sem] lt_avl_even
theorem lt_slices_Clone_sl_byte_byte : (n_slices_Clone_sl_byte_byte < 1000000) = True := eq_true (by decide)
attribute [go_sem] lt_slices_Clone_sl_byte_byte
theorem lt_avl_put : (n_avl_put < 1000000) = True := eq_true (by decide)
attribute [go_sem] lt_avl_put
theorem lt_avl_node : (n_avl_node < 1000000) = True := eq_true (by decide)
attribute [go_sem] lt_avl_node
theorem lt_avl_leveled : (n_avl_leveled < 1000000) = True := eq_true (by decide)
attribute [go_sem] lt_avl_leveled
theorem lt_avl_depth : (n_avl_depth < 1000000) = True := eq_true (by decide)
attribute [go_sem] lt_avl_depth
theorem lt_avl_left : (n_avl_left < 1000000) = True := eq_true (by decide)
attribute [go_sem] lt_avl_left
theorem lt_avl_right : (n_avl_right < 1000000) = True := eq_true (by decide)
attribute [go_sem] lt_avl_right
theorem lt_avl_Get : (n_avl_Get < 1000000) = True := eq_true (by decide)
attribute [go_sem] lt_avl_Get
theorem lt_avl_Delete : (n_avl_Delete < 1000000) = True := eq_true (by decide)
attribute [go_sem] lt_avl_Delete
theorem lt_avl_take : (n_avl_take < 1000000) = True := eq_true (by decide)
attribute [go_sem] lt_avl_take
theorem lt_ref04_List : (n_ref04_List < 1000000) = True := eq_true (by decide)
attribute [go_sem] lt_ref04_List
theorem ca_law05_AvlHolds (l : List AV) : cArgs tab n_law05_AvlHolds l = canonA [] l := rfl
attribute [go_sem] t_law05_AvlHolds ca_law05_AvlHolds
theorem ca_law05_up (l : List AV) : cArgs tab n_law05_up l = canonA [] l := rfl
attribute [go_sem] t_law05_up ca_law05_up
theorem ca_avl_Put (l : List AV) : cArgs tab n_avl_Put l = canonA [] l := rfl
attribute [go_sem] t_avl_Put ca_avl_Put
theorem ca_avl_asked (l : List AV) : cArgs tab n_avl_asked l = canonA [] l := rfl
attribute [go_sem] t_avl_asked ca_avl_asked
theorem ca_avl_Is (l : List AV) : cArgs tab n_avl_Is l = canonA [] l := rfl
attribute [go_sem] t_avl_Is ca_avl_Is
theorem ca_tree_Full (l : List AV) : cArgs tab n_tree_Full l = canonA [] l := rfl
attribute [go_sem] t_tree_Full ca_tree_Full
theorem ca_tree_Check (l : List AV) : cArgs tab n_tree_Check l = canonA [] l := rfl
attribute [go_sem] t_tree_Check ca_tree_Check
theorem ca_tree_deep (l : List AV) : cArgs tab n_tree_deep l = canonA [] l := rfl
attribute [go_sem] t_tree_deep ca_tree_deep
theorem ca_tree_deep_1 (l : List AV) : cArgs tab n_tree_deep_1 l = canonA [] l := rfl
attribute [go_sem] t_tree_deep_1 ca_tree_deep_1
theorem ca_slices_ContainsFunc_sl_api_Tree_api_Tree (l : List AV) : cArgs tab n_slices_ContainsFunc_sl_api_Tree_api_Tree l = canonA [] l := rfl
attribute [go_sem] t_slices_ContainsFunc_sl_api_Tree_api_Tree ca_slices_ContainsFunc_sl_api_Tree_api_Tree
theorem ca_slices_IndexFunc_sl_api_Tree_api_Tree (l : List AV) : cArgs tab n_slices_IndexFunc_sl_api_Tree_api_Tree l = canonA [] l := rfl
attribute [go_sem] t_slices_IndexFunc_sl_api_Tree_api_Tree ca_slices_IndexFunc_sl_api_Tree_api_Tree
theorem ca_tree_formed (l : List AV) : cArgs tab n_tree_formed l = canonA [] l := rfl
attribute [go_sem] t_tree_formed ca_tree_formed
theorem ca_tree_formed_1 (l : List AV) : cArgs tab n_tree_formed_1 l = canonA [] l := rfl
attribute [go_sem] t_tree_formed_1 ca_tree_formed_1
theorem ca_tree_full (l : List AV) : cArgs tab n_tree_full l = canonA [] l := rfl
attribute [go_sem] t_tree_full ca_tree_full
theorem ca_tree_full_1 (l : List AV) : cArgs tab n_tree_full_1 l = canonA [] l := rfl
attribute [go_sem] t_tree_full_1 ca_tree_full_1
theorem ca_tree_List (l : List AV) : cArgs tab n_tree_List l = canonA [] l := rfl
attribute [go_sem] t_tree_List ca_tree_List
theorem ca_tree_List_1 (l : List AV) : cArgs tab n_tree_List_1 l = canonA [] l := rfl
attribute [go_sem] t_tree_List_1 ca_tree_List_1
theorem ca_bytes_Compare (l : List AV) : cArgs tab n_bytes_Compare l = canonA [] l := rfl
attribute [go_sem] t_bytes_Compare ca_bytes_Compare
theorem ca_avl_even (l : List AV) : cArgs tab n_avl_even l = canonA [] l := rfl
attribute [go_sem] t_avl_even ca_avl_even
theorem ca_slices_Clone_sl_byte_byte (l : List AV) : cArgs tab n_slices_Clone_sl_byte_byte l = canonA [] l := rfl
attribute [go_sem] t_slices_Clone_sl_byte_byte ca_slices_Clone_sl_byte_byte
theorem ca_avl_put (l : List AV) : cArgs tab n_avl_put l = canonA [] l := rfl
attribute [go_sem] t_avl_put ca_avl_put
theorem ca_avl_node (l : List AV) : cArgs tab n_avl_node l = canonA [] l := rfl
attribute [go_sem] t_avl_node ca_avl_node
theorem ca_avl_leveled (l : List AV) : cArgs tab n_avl_leveled l = canonA [] l := rfl
attribute [go_sem] t_avl_leveled ca_avl_leveled
theorem ca_avl_depth (l : List AV) : cArgs tab n_avl_depth l = canonA [] l := rfl
attribute [go_sem] t_avl_depth ca_avl_depth
theorem ca_avl_left (l : List AV) : cArgs tab n_avl_left l = canonA [] l := rfl
attribute [go_sem] t_avl_left ca_avl_left
theorem ca_avl_right (l : List AV) : cArgs tab n_avl_right l = canonA [] l := rfl
attribute [go_sem] t_avl_right ca_avl_right
theorem ca_avl_Get (l : List AV) : cArgs tab n_avl_Get l = canonA [] l := rfl
attribute [go_sem] t_avl_Get ca_avl_Get
theorem ca_avl_Delete (l : List AV) : cArgs tab n_avl_Delete l = canonA [] l := rfl
attribute [go_sem] t_avl_Delete ca_avl_Delete
theorem ca_avl_take (l : List AV) : cArgs tab n_avl_take l = canonA [] l := rfl
attribute [go_sem] t_avl_take ca_avl_take
theorem ca_ref04_List (l : List AV) : cArgs tab n_ref04_List l = canonA [] l := rfl
attribute [go_sem] t_ref04_List ca_ref04_List
theorem kt_law05_AvlHolds_r (l : List AV) : keepT i_law05_AvlHolds_r l = keepT [false, false, true, false, false, false, false, false, false, false, false, false, false, false, false, false, false, false, false, false, false, false, false, false, false, false, false, false, false, false, false, false, false, false, false, false, false, false, false, false, false, false, false, false, false, false, false, false, false, false, false, false, false, false, false, false, false, false, false, false, false, false, false, false, false, false, false, false, false, false, false, false, false, false, false, false, false, false, false, false, false, false, false, false, false, false, false, false, false, false, false, false, false, false, false, false, false, false, false, false, false, false, false, false, false, false, false, false, false, false, false, false, false, false, false, false, false, false, false, false, false, false, false, false, false, false, false, false, false, false, false, false, false, false, false, false, false, false, false, false, false, false, false, false, false, false, false, false, false, false, false, false, false, false] l := rfl
attribute [go_sem] kt_law05_AvlHolds_r
theorem kt_law05_AvlHolds_j3 (l : List AV) : keepT i_law05_AvlHolds_j3 l = keepT [true, false, false, true, true, true, true, true, true, true, true, false, false, false, false, false, false, false, false, false, false, false, false, false, false, false, false, false, false, false, false, false, false, false, false, false, false, false, false, false, false, false, false, false, false, false, false, false, false, false, false, false, false, false, false, false, false, false, false, false, false, false, false, false, false, false, false, false, false, false, false, false, false, false, false, false, false, false, false, false, false, false, false, false, false, false, false, false, false, false, false, false, false, false, false, false, false, false, false, false, false, false, false, false, false, false, false, false, false, false, false, false, false, false, false, false, false, false, false, false, false, false, false, false, false, false, false, false, false, false, false, false, false, false, false, false, false, false, false, false, false, false, false, false, false, false, false, false, false, false, false, false, false, false] l := rfl
attribute [go_sem] kt_law05_AvlHolds_j3
theorem kt_law05_AvlHolds_k1 (l : List AV) : keepT i_law05_AvlHolds_k1 l = keepT [true, false, false, true, true, true, true, true, true, true, true, false, false, false, false, false, false, false, false, false, false, false, false, false, false, false, false, false, false, false, false, false, false, false, false, false, false, false, false, false, false, false, false, false, false, false, false, false, false, false, false, false, false, false, false, false, false, false, false, false, false, false, false, false, false, false, false, false, false, false, false, false, false, false, false, false, false, false, false, false, false, false, false, false, false, false, false, false, false, false, false, false, false, false, false, false, false, false, false, false, false, false, false, false, false, false, false, false, false, false, false, false, false, false, false, false, false, false, false, false, false, false, false, false, false, false, false, false, false, false, false, false, false, false, false, false, false, false, false, false, false, false, false, false, false, false, false, false, false, false, false, false, false, false] l := rfl
attribute [go_sem] kt_law05_AvlHolds_k1
theorem kt_law05_AvlHolds_j2 (l : List AV) : keepT i_law05_AvlHolds_j2 l = keepT [true, false, false, true, true, false, true, true, true, true, false, false, false, false, false, false, false, false, false, false, false, false, false, false, false, false, false, false, false, false, false, false, false, false, false, false, false, false, false, false, false, false, false, false, false, false, false, false, false, false, false, false, false, false, false, false, false, false, false, false, false, false, false, false, false, false, false, false, false, false, false, false, false, false, false, false, false, false, false, false, false, false, false, false, false, false, false, false, false, false, false, false, false, false, false, false, false, false, false, false, false, false, false, false, false, false, false, false, false, false, false, false, false, false, false, false, false, false, false, false, false, false, false, false, false, false, false, false, false, false, false, false, false, false, false, false, false, false, false, false, false, false, false, false, false, false, false, false, false, false, false, false, false, false] l := rfl
attribute [go_sem] kt_law05_AvlHolds_j2
theorem kt_law05_AvlHolds_j1 (l : List AV) : keepT i_law05_AvlHolds_j1 l = keepT [true, false, false, true, true, true, true, false, false, false, false, false, false, false, false, false, false, false, false, false, false, false, false, false, false, false, false, false, false, false, false, false, false, false, false, false, false, false, false, false, false, false, false, false, false, false, false, false, false, false, false, false, false, false, false, false, false, false, false, false, false, false, false, false, false, false, false, false, false, false, false, false, false, false, false, false, false, false, false, false, false, false, false, false, false, false, false, false, false, false, false, false, false, false, false, false, false, false, false, false, false, false, false, false, false, false, false, false, false, false, false, false, false, false, false, false, false, false, false, false, false, false, false, false, false, false, false, false, false, false, false, false, false, false, false, false, false, false, false, false, false, false, false, false, false, false, false, false, false, false, false, false, false, false] l := rfl
attribute [go_sem] kt_law05_AvlHolds_j1
theorem kt_law05_AvlHolds_k0 (l : List AV) : keepT i_law05_AvlHolds_k0 l = keepT [true, false, false, true, true, true, true, false, false, false, false, false, false, false, false, false, false, false, false, false, false, false, false, false, false, false, false, false, false, false, false, false, false, false, false, false, false, false, false, false, false, false, false, false, false, false, false, false, false, false, false, false, false, false, false, false, false, false, false, false, false, false, false, false, false, false, false, false, false, false, false, false, false, false, false, false, false, false, false, false, false, false, false, false, false, false, false, false, false, false, false, false, false, false, false, false, false, false, false, false, false, false, false, false, false, false, false, false, false, false, false, false, false, false, false, false, false, false, false, false, false, false, false, false, false, false, false, false, false, false, false, false, false, false, false, false, false, false, false, false, false, false, false, false, false, false, false, false, false, false, false, false, false, false] l := rfl
attribute [go_sem] kt_law05_AvlHolds_k0
theorem kt_law05_AvlHolds_j0 (l : List AV) : keepT i_law05_AvlHolds_j0 l = keepT [false, false, false, true, true, true, false, false, false, false, false, false, false, false, false, false, false, false, false, false, false, false, false, false, false, false, false, false, false, false, false, false, false, false, false, false, false, false, false, false, false, false, false, false, false, false, false, false, false, false, false, false, false, false, false, false, false, false, false, false, false, false, false, false, false, false, false, false, false, false, false, false, false, false, false, false, false, false, false, false, false, false, false, false, false, false, false, false, false, false, false, false, false, false, false, false, false, false, false, false, false, false, false, false, false, false, false, false, false, false, false, false, false, false, false, false, false, false, false, false, false, false, false, false, false, false, false, false, false, false, false, false, false, false, false, false, false, false, false, false, false, false, false, false, false, false, false, false, false, false, false, false, false, false] l := rfl
attribute [go_sem] kt_law05_AvlHolds_j0
theorem kt_law05_AvlHolds_j5 (l : List AV) : keepT i_law05_AvlHolds_j5 l = keepT [false, false, false, true, true, true, false, false, false, false, false, false, false, false, false, false, true, false, false, false, false, false, false, false, false, false, false, false, false, false, false, false, false, false, false, false, false, false, false, false, false, false, false, false, false, false, false, false, false, false, false, false, false, false, false, false, false, false, false, false, false, false, false, false, false, false, false, false, false, false, false, false, false, false, false, false, false, false, false, false, false, false, false, false, false, false, false, false, false, false, false, false, false, false, false, false, false, false, false, false, false, false, false, false, false, false, false, false, false, false, false, false, false, false, false, false, false, false, false, false, false, false, false, false, false, false, false, false, false, false, false, false, false, false, false, false, false, false, false, false, false, false, false, false, false, false, false, false, false, false, false, false, false, false] l := rfl
attribute [go_sem] kt_law05_AvlHolds_j5
theorem kt_law05_AvlHolds_k2 (l : List AV) : keepT i_law05_AvlHolds_k2 l = keepT [false, false, false, true, true, true, false, false, false, false, false, false, false, false, false, false, true, false, false, false, false, false, false, false, false, false, false, false, false, false, false, false, false, false, false, false, false, false, false, false, false, false, false, false, false, false, false, false, false, false, false, false, false, false, false, false, false, false, false, false, false, false, false, false, false, false, false, false, false, false, false, false, false, false, false, false, false, false, false, false, false, false, false, false, false, false, false, false, false, false, false, false, false, false, false, false, false, false, false, false, false, false, false, false, false, false, false, false, false, false, false, false, false, false, false, false, false, false, false, false, false, false, false, false, false, false, false, false, false, false, false, false, false, false, false, false, false, false, false, false, false, false, false, false, false, false, false, false, false, false, false, false, false, false] l := rfl
attribute [go_sem] kt_law05_AvlHolds_k2
theorem kt_law05_AvlHolds_j4 (l : List AV) : keepT i_law05_AvlHolds_j4 l = keepT [false, false, false, true, false, false, false, false, false, false, false, false, false, false, false, false, false, false, false, false, false, false, false, false, false, false, false, false, false, false, false, false, false, false, false, false, false, false, false, false, false, false, false, false, false, false, false, false, false, false, false, false, false, false, false, false, false, false, false, false, false, false, false, false, false, false, false, false, false, false, false, false, false, false, false, false, false, false, false, false, false, false, false, false, false, false, false, false, false, false, false, false, false, false, false, false, false, false, false, false, false, false, false, false, false, false, false, false, false, false, false, false, false, false, false, false, false, false, false, false, false, false, false, false, false, false, false, false, false, false, false, false, false, false, false, false, false, false, false, false, false, false, false, false, false, false, false, false, false, false, false, false, false, false] l := rfl
attribute [go_sem] kt_law05_AvlHolds_j4
theorem kt_law05_up_r (l : List AV) : keepT i_law05_up_r l = keepT [true, false, false, false, false, false, false, false, false, false, false, false, false, false, false, false, false, false, false, false, false, false, false, false, false, false, false, false, false, false, false, false, false, false, false, false, false, false, false, false, false, false, false, false, false, false, false, false, false, false, false, false, false, false, false, false, false, false, false, false, false, false, false, false, false, false, false, false, false] l := rfl
attribute [go_sem] kt_law05_up_r
theorem kt_avl_Put_r (l : List AV) : keepT i_avl_Put_r l = keepT [false, false, false, false, false, false, true, true, false, false, false, false, false, false, false, false, false, false, false, false, false, false, false] l := rfl
attribute [go_sem] kt_avl_Put_r
theorem kt_avl_asked_r (l : List AV) : keepT i_avl_asked_r l = keepT [false, false, false, false, false, false, true, false, false, false, false, false, false, false, false, false, false, false, false, false, false, false] l := rfl
attribute [go_sem] kt_avl_asked_r
theorem kt_avl_asked_j0 (l : List AV) : keepT i_avl_asked_j0 l = keepT [false, false, false, false, false, false, false, false, false, false, false, false, false, false, false, false, false, false, false, false, false, false] l := rfl
attribute [go_sem] kt_avl_asked_j0
theorem kt_avl_Is_r (l : List AV) : keepT i_avl_Is_r l = keepT [false, false, true, false, false, false, false, false, false, false, false, false, false, false, false, false, false, false, false, false, false, false, false, false, false, false, false, false, false, false, false, false, false, false, false, false, false] l := rfl
attribute [go_sem] kt_avl_Is_r
theorem kt_avl_Is_j1 (l : List AV) : keepT i_avl_Is_j1 l = keepT [false, true, false, true, true, false, false, false, false, false, false, false, false, false, false, false, false, false, false, false, false, false, false, false, false, false, false, false, false, false, false, false, false, false, false, false, false] l := rfl
attribute [go_sem] kt_avl_Is_j1
theorem kt_avl_Is_k0 (l : List AV) : keepT i_avl_Is_k0 l = keepT [false, true, false, true, true, false, false, false, false, false, false, false, false, false, false, false, false, false, false, false, false, false, false, false, false, false, false, false, false, false, false, false, false, false, false, false, false] l := rfl
attribute [go_sem] kt_avl_Is_k0
theorem kt_avl_Is_j0 (l : List AV) : keepT i_avl_Is_j0 l = keepT [false, true, false, false, false, false, false, false, false, false, false, false, false, false, false, false, false, false, false, false, false, false, false, false, false, false, false, false, false, false, false, false, false, false, false, false, false] l := rfl
attribute [go_sem] kt_avl_Is_j0
theorem kt_tree_Full_r (l : List AV) : keepT i_tree_Full_r l = keepT [false, false, true, false, false, false, false, false, false, false] l := rfl
attribute [go_sem] kt_tree_Full_r
theorem kt_tree_Check_r (l : List AV) : keepT i_tree_Check_r l = keepT [false, false, true, false, false, false, false, false, false, false, false, false] l := rfl
attribute [go_sem] kt_tree_Check_r
theorem kt_tree_Check_j0 (l : List AV) : keepT i_tree_Check_j0 l = keepT [false, false, false, false, false, false, false, false, false, false, false, false] l := rfl
attribute [go_sem] kt_tree_Check_j0
theorem kt_tree_deep_r (l : List AV) : keepT i_tree_deep_r l = keepT [false, false, false, false, true, false, false, false, false, false, false, false, false, false, false, false, false, false, false, false, false, false, false, false, false, false, false, false, false] l := rfl
attribute [go_sem] kt_tree_deep_r
theorem kt_tree_deep_1_r (l : List AV) : keepT i_tree_deep_1_r l = keepT [false, false, false, true, false, false, false, false] l := rfl
attribute [go_sem] kt_tree_deep_1_r
theorem kt_slices_ContainsFunc_sl_api_Tree_api_Tree_r (l : List AV) : keepT i_slices_ContainsFunc_sl_api_Tree_api_Tree_r l = keepT [false, false, false, false, true, false, false, false, false] l := rfl
attribute [go_sem] kt_slices_ContainsFunc_sl_api_Tree_api_Tree_r
theorem kt_slices_IndexFunc_sl_api_Tree_api_Tree_r (l : List AV) : keepT i_slices_IndexFunc_sl_api_Tree_api_Tree_r l = keepT [false, false, false, false, true, false, false, false, false, false, false, false, false, false, false, false, false, false, false] l := rfl
attribute [go_sem] kt_slices_IndexFunc_sl_api_Tree_api_Tree_r
theorem kt_slices_IndexFunc_sl_api_Tree_api_Tree_j1 (l : List AV) : keepT i_slices_IndexFunc_sl_api_Tree_api_Tree_j1 l = keepT [true, true, false, false, false, false, false, true, true, false, false, false, false, false, false, false, false, false, false] l := rfl
attribute [go_sem] kt_slices_IndexFunc_sl_api_Tree_api_Tree_j1
theorem kt_slices_IndexFunc_sl_api_Tree_api_Tree_k0 (l : List AV) : keepT i_slices_IndexFunc_sl_api_Tree_api_Tree_k0 l = keepT [true, true, false, false, false, false, false, true, true, false, false, false, false, false, false, false, false, false, false] l := rfl
attribute [go_sem] kt_slices_IndexFunc_sl_api_Tree_api_Tree_k0
theorem kt_slices_IndexFunc_sl_api_Tree_api_Tree_j0 (l : List AV) : keepT i_slices_IndexFunc_sl_api_Tree_api_Tree_j0 l = keepT [false, false, false, false, false, false, false, false, false, false, false, false, false, false, false, false, false, false, false] l := rfl
attribute [go_sem] kt_slices_IndexFunc_sl_api_Tree_api_Tree_j0
theorem kt_tree_formed_r (l : List AV) : keepT i_tree_formed_r l = keepT [false, false, true, false, false, false, false, false, false, false, false, false, false, false, false, false, false, false, false, false, false, false, false, false, false, false, false, false, false, false, false, false, false, false, false, false, false, false, false, false, false, false, false, false, false, false, false, false, false, false, false, false, false, false, false, false, false, false, false, false, false, false, false, false, false, false, false, false, false, false, false, false, false, false, false, false, false, false, false, false, false, false, false, false, false, false, false] l := rfl
attribute [go_sem] kt_tree_formed_r
theorem kt_tree_formed_j0 (l : List AV) : keepT i_tree_formed_j0 l = keepT [false, true, false, true, false, false, false, false, false, false, false, false, false, false, false, false, false, false, false, false, false, false, false, false, false, false, false, false, false, false, false, false, false, false, false, false, false, false, false, false, false, false, false, false, false, false, false, false, false, false, false, false, false, false, false, false, false, false, false, false, false, false, false, false, false, false, false, false, false, false, false, false, false, false, false, false, false, false, false, false, false, false, false, false, false, false, false] l := rfl
attribute [go_sem] kt_tree_formed_j0
theorem kt_tree_formed_1_r (l : List AV) : keepT i_tree_formed_1_r l = keepT [false, false, true, false, false, false] l := rfl
attribute [go_sem] kt_tree_formed_1_r
theorem kt_tree_full_r (l : List AV) : keepT i_tree_full_r l = keepT [false, false, true, false, false, false, false, false, false, false, false, false, false, false, false] l := rfl
attribute [go_sem] kt_tree_full_r
theorem kt_tree_full_1_r (l : List AV) : keepT i_tree_full_1_r l = keepT [false, false, true, false, false, false] l := rfl
attribute [go_sem] kt_tree_full_1_r
theorem kt_tree_List_r (l : List AV) : keepT i_tree_List_r l = keepT [false, false, true, false, false, false, false, false, false, false, false, false, false] l := rfl
attribute [go_sem] kt_tree_List_r
theorem kt_tree_List_1_r (l : List AV) : keepT i_tree_List_1_r l = keepT [false, false, false, false, false, false, false, false, false, false, false, false, false, false, false, false, false, false, false, false, false, false, false, false, false, false] l := rfl
attribute [go_sem] kt_tree_List_1_r
theorem kt_bytes_Compare_r (l : List AV) : keepT i_bytes_Compare_r l = keepT [false, false, false, false, true, false, false, false] l := rfl
attribute [go_sem] kt_bytes_Compare_r
theorem kt_avl_even_r (l : List AV) : keepT i_avl_even_r l = keepT [false, false, true, true, false, false, false, false, false, false, false, false, false, false, false, false, false, false, false, false, false, false, false, false, false, false, false, false, false, false, false, false, false, false, false, false, false, false, false, false, false, false, false, false, false, false, false, false] l := rfl
attribute [go_sem] kt_avl_even_r
theorem kt_slices_Clone_sl_byte_byte_r (l : List AV) : keepT i_slices_Clone_sl_byte_byte_r l = keepT [false, false, true, false, false, false, false, false] l := rfl
attribute [go_sem] kt_slices_Clone_sl_byte_byte_r
theorem kt_avl_put_r (l : List AV) : keepT i_avl_put_r l = keepT [false, false, false, false, false, false, true, false, false, false, false, false, false, false, false, false, false, false, false, false, false, false, false, false, false, false, false, false, false, false, false, false, false, false, false, false, false, false, false, false, false, false, false, false, false, false, false, false, false, false, false, false, false, false, false, false, false, false, false, false, false, false, false, false, false] l := rfl
attribute [go_sem] kt_avl_put_r
theorem kt_avl_put_j0 (l : List AV) : keepT i_avl_put_j0 l = keepT [false, true, true, true, false, false, true, true, true, false, false, false, false, false, false, false, false, false, false, false, false, false, false, false, false, false, false, false, false, false, false, false, false, false, false, false, false, false, false, false, false, false, false, false, false, false, false, false, false, false, false, false, false, false, false, false, false, false, false, false, false, false, false, false, false] l := rfl
attribute [go_sem] kt_avl_put_j0
theorem kt_avl_node_r (l : List AV) : keepT i_avl_node_r l = keepT [false, false, false, false, false, false, false, false, true, false, false, false, false, false, false] l := rfl
attribute [go_sem] kt_avl_node_r
theorem kt_avl_leveled_r (l : List AV) : keepT i_avl_leveled_r l = keepT [false, false, true, false, false, false, false, false, false, false, false, false, false, false, false, false, false, false, false, false, false, false, false, false, false, false, false, false, false, false, false, false, false, false, false, false, false, false, false, false, false, false, false, false, false, false, false, false, false, false, false, false, false, false, false, false, false, false, false, false, false, false, false, false, false, false, false, false] l := rfl
attribute [go_sem] kt_avl_leveled_r
theorem kt_avl_leveled_j0 (l : List AV) : keepT i_avl_leveled_j0 l = keepT [false, true, true, false, false, false, false, false, false, false, false, false, false, false, false, false, false, false, false, false, false, false, false, false, false, false, false, false, false, false, false, false, false, false, false, false, false, false, false, false, false, false, false, false, false, false, false, false, false, false, false, false, false, false, false, false, false, false, false, false, false, false, false, false, false, false, false, false] l := rfl
attribute [go_sem] kt_avl_leveled_j0
theorem kt_avl_depth_r (l : List AV) : keepT i_avl_depth_r l = keepT [false, false, true, false, false, false, false, false, false, false, false] l := rfl
attribute [go_sem] kt_avl_depth_r
theorem kt_avl_left_r (l : List AV) : keepT i_avl_left_r l = keepT [false, false, true, false, false, false, false, false, false, false, false, false, false, false, false, false, false, false, false, false, false, false, false, false, false, false, false, false, false, false] l := rfl
attribute [go_sem] kt_avl_left_r
theorem kt_avl_right_r (l : List AV) : keepT i_avl_right_r l = keepT [false, false, true, false, false, false, false, false, false, false, false, false, false, false, false, false, false, false, false, false, false, false, false, false, false, false, false, false, false, false] l := rfl
attribute [go_sem] kt_avl_right_r
theorem kt_avl_Get_r (l : List AV) : keepT i_avl_Get_r l = keepT [false, false, false, false, true, true, true, false, false, false, false, false, false, false, false, false, false, false, false, false, false, false, false, false, false, false, false, false, false, false, false, false, false, false, false, false, false, false, false, false] l := rfl
attribute [go_sem] kt_avl_Get_r
theorem kt_avl_Get_j2 (l : List AV) : keepT i_avl_Get_j2 l = keepT [false, true, true, false, false, false, false, false, false, false, false, false, false, false, false, false, false, false, false, false, false, false, false, false, false, false, false, false, false, false, false, false, false, false, false, false, false, false, false, false] l := rfl
attribute [go_sem] kt_avl_Get_j2
theorem kt_avl_Get_j1 (l : List AV) : keepT i_avl_Get_j1 l = keepT [false, true, true, false, false, false, false, false, false, false, false, false, false, false, false, false, false, false, false, false, false, false, false, false, false, false, false, false, false, false, false, false, false, false, false, false, false, false, false, false] l := rfl
attribute [go_sem] kt_avl_Get_j1
theorem kt_avl_Get_k0 (l : List AV) : keepT i_avl_Get_k0 l = keepT [false, true, true, false, false, false, false, false, false, false, false, false, false, false, false, false, false, false, false, false, false, false, false, false, false, false, false, false, false, false, false, false, false, false, false, false, false, false, false, false] l := rfl
attribute [go_sem] kt_avl_Get_k0
theorem kt_avl_Get_j0 (l : List AV) : keepT i_avl_Get_j0 l = keepT [false, false, false, false, false, false, false, false, false, false, false, false, false, false, false, false, false, false, false, false, false, false, false, false, false, false, false, false, false, false, false, false, false, false, false, false, false, false, false, false] l := rfl
attribute [go_sem] kt_avl_Get_j0
theorem kt_avl_Delete_r (l : List AV) : keepT i_avl_Delete_r l = keepT [false, false, false, false, true, true, true, false, false, false, false, false, false, false, false, false, false, false, false, false, false, false, false, false, false, false, false, false, false] l := rfl
attribute [go_sem] kt_avl_Delete_r
theorem kt_avl_Delete_j0 (l : List AV) : keepT i_avl_Delete_j0 l = keepT [false, true, true, false, true, false, false, false, false, false, false, false, false, false, false, false, false, false, false, false, false, false, false, false, false, false, false, false, false] l := rfl
attribute [go_sem] kt_avl_Delete_j0
theorem kt_avl_take_r (l : List AV) : keepT i_avl_take_r l = keepT [false, false, false, false, true, false, false, false, false, false, false, false, false, false, false, false, false, false, false, false, false, false, false, false, false, false, false, false, false, false, false, false, false, false, false, false, false, false, false, false, false, false, false, false, false, false, false, false, false, false, false, false, false, false, false, false, false, false, false, false, false, false, false, false, false, false, false, false, false, false, false, false, false, false, false, false, false, false, false, false, false, false, false, false, false, false, false] l := rfl
attribute [go_sem] kt_avl_take_r
theorem kt_avl_take_j0 (l : List AV) : keepT i_avl_take_j0 l = keepT [false, false, false, false, true, true, true, false, false, false, false, false, false, false, false, false, false, false, false, false, false, false, false, false, false, false, false, false, false, false, false, false, false, false, false, false, false, false, false, false, false, false, false, false, false, false, false, false, false, false, false, false, false, false, false, false, false, false, false, false, false, false, false, false, false, false, false, false, false, false, false, false, false, false, false, false, false, false, false, false, false, false, false, false, false, false, false] l := rfl
attribute [go_sem] kt_avl_take_j0
theorem kt_avl_take_j2 (l : List AV) : keepT i_avl_take_j2 l = keepT [false, false, false, false, true, true, true, false, true, false, false, false, false, false, false, false, false, false, false, false, false, false, false, false, false, false, false, false, false, false, false, false, false, false, false, false, false, false, false, false, false, false, false, false, false, false, false, false, false, false, false, false, false, false, false, false, false, false, false, false, false, false, false, false, false, false, false, false, false, false, false, false, false, false, false, false, false, false, false, false, false, false, false, false, false, false, false] l := rfl
attribute [go_sem] kt_avl_take_j2
theorem kt_avl_take_k0 (l : List AV) : keepT i_avl_take_k0 l = keepT [false, false, false, false, true, true, true, false, true, false, false, false, false, false, false, false, false, false, false, false, false, false, false, false, false, false, false, false, false, false, false, false, false, false, false, false, false, false, false, false, false, false, false, false, false, false, false, false, false, false, false, false, false, false, false, false, false, false, false, false, false, false, false, false, false, false, false, false, false, false, false, false, false, false, false, false, false, false, false, false, false, false, false, false, false, false, false] l := rfl
attribute [go_sem] kt_avl_take_k0
theorem kt_avl_take_j1 (l : List AV) : keepT i_avl_take_j1 l = keepT [false, false, false, false, true, true, true, false, true, false, false, false, false, false, false, false, false, false, false, false, false, false, false, false, false, false, false, false, false, false, false, false, false, false, false, false, false, false, false, false, false, false, false, false, false, false, false, false, false, false, false, false, false, false, false, false, false, false, false, false, false, false, false, false, false, false, false, false, false, false, false, false, false, false, false, false, false, false, false, false, false, false, false, false, false, false, false] l := rfl
attribute [go_sem] kt_avl_take_j1
theorem kt_ref04_List_r (l : List AV) : keepT i_ref04_List_r l = keepT [false, false, true, false, false, false, false, false, false, false, false, false, false, false, false, false, false, false, false, false, false, false, false, false, false, false] l := rfl
attribute [go_sem] kt_ref04_List_r
noncomputable def L_law05_AvlHolds_1 (st : St) : Option (Ex × St) := lp tab G0 5 i_law05_AvlHolds_k1 i_law05_AvlHolds_b1 st
theorem L_law05_AvlHolds_1_eq (st : St) : L_law05_AvlHolds_1 st = againL L_law05_AvlHolds_1 5 i_law05_AvlHolds_k1 (app tab G0 5 [] (ex tab G0 5 i_law05_AvlHolds_b1 st)) := lp_eq tab G0 5 i_law05_AvlHolds_k1 i_law05_AvlHolds_b1 st
theorem L_law05_AvlHolds_1_in (K : List Fr) (st : St) : app tab G0 5 K (ex tab G0 5 (.loop i_law05_AvlHolds_k1 i_law05_AvlHolds_b1) st) = app tab G0 5 K (L_law05_AvlHolds_1 (clean 5 i_law05_AvlHolds_k1 st)) := rfl
attribute [go_sem] L_law05_AvlHolds_1_in
noncomputable def L_law05_AvlHolds_0 (st : St) : Option (Ex × St) := lp tab G0 5 i_law05_AvlHolds_k0 i_law05_AvlHolds_b0 st
theorem L_law05_AvlHolds_0_eq (st : St) : L_law05_AvlHolds_0 st = againL L_law05_AvlHolds_0 5 i_law05_AvlHolds_k0 (app tab G0 5 [] (ex tab G0 5 i_law05_AvlHolds_b0 st)) := lp_eq tab G0 5 i_law05_AvlHolds_k0 i_law05_AvlHolds_b0 st
theorem L_law05_AvlHolds_0_in (K : List Fr) (st : St) : app tab G0 5 K (ex tab G0 5 (.loop i_law05_AvlHolds_k0 i_law05_AvlHolds_b0) st) = app tab G0 5 K (L_law05_AvlHolds_0 (clean 5 i_law05_AvlHolds_k0 st)) := rfl
attribute [go_sem] L_law05_AvlHolds_0_in
noncomputable def L_law05_AvlHolds_2 (st : St) : Option (Ex × St) := lp tab G0 5 i_law05_AvlHolds_k2 i_law05_AvlHolds_b2 st
theorem L_law05_AvlHolds_2_eq (st : St) : L_law05_AvlHolds_2 st = againL L_law05_AvlHolds_2 5 i_law05_AvlHolds_k2 (app tab G0 5 [] (ex tab G0 5 i_law05_AvlHolds_b2 st)) := lp_eq tab G0 5 i_law05_AvlHolds_k2 i_law05_AvlHolds_b2 st
theorem L_law05_AvlHolds_2_in (K : List Fr) (st : St) : app tab G0 5 K (ex tab G0 5 (.loop i_law05_AvlHolds_k2 i_law05_AvlHolds_b2) st) = app tab G0 5 K (L_law05_AvlHolds_2 (clean 5 i_law05_AvlHolds_k2 st)) := rfl
attribute [go_sem] L_law05_AvlHolds_2_in
noncomputable def L_avl_Is_0 (st : St) : Option (Ex × St) := lp tab G0 1 i_avl_Is_k0 i_avl_Is_b0 st
theorem L_avl_Is_0_eq (st : St) : L_avl_Is_0 st = againL L_avl_Is_0 1 i_avl_Is_k0 (app tab G0 1 [] (ex tab G0 1 i_avl_Is_b0 st)) := lp_eq tab G0 1 i_avl_Is_k0 i_avl_Is_b0 st
theorem L_avl_Is_0_in (K : List Fr) (st : St) : app tab G0 1 K (ex tab G0 1 (.loop i_avl_Is_k0 i_avl_Is_b0) st) = app tab G0 1 K (L_avl_Is_0 (clean 1 i_avl_Is_k0 st)) := rfl
attribute [go_sem] L_avl_Is_0_in
noncomputable def L_slices_IndexFunc_sl_api_Tree_api_Tree_0 (st : St) : Option (Ex × St) := lp tab G0 0 i_slices_IndexFunc_sl_api_Tree_api_Tree_k0 i_slices_IndexFunc_sl_api_Tree_api_Tree_b0 st
theorem L_slices_IndexFunc_sl_api_Tree_api_Tree_0_eq (st : St) : L_slices_IndexFunc_sl_api_Tree_api_Tree_0 st = againL L_slices_IndexFunc_sl_api_Tree_api_Tree_0 0 i_slices_IndexFunc_sl_api_Tree_api_Tree_k0 (app tab G0 0 [] (ex tab G0 0 i_slices_IndexFunc_sl_api_Tree_api_Tree_b0 st)) := lp_eq tab G0 0 i_slices_IndexFunc_sl_api_Tree_api_Tree_k0 i_slices_IndexFunc_sl_api_Tree_api_Tree_b0 st
theorem L_slices_IndexFunc_sl_api_Tree_api_Tree_0_in (K : List Fr) (st : St) : app tab G0 0 K (ex tab G0 0 (.loop i_slices_IndexFunc_sl_api_Tree_api_Tree_k0 i_slices_IndexFunc_sl_api_Tree_api_Tree_b0) st) = app tab G0 0 K (L_slices_IndexFunc_sl_api_Tree_api_Tree_0 (clean 0 i_slices_IndexFunc_sl_api_Tree_api_Tree_k0 st)) := rfl
attribute [go_sem] L_slices_IndexFunc_sl_api_Tree_api_Tree_0_in
noncomputable def L_avl_Get_0 (st : St) : Option (Ex × St) := lp tab G0 1 i_avl_Get_k0 i_avl_Get_b0 st
theorem L_avl_Get_0_eq (st : St) : L_avl_Get_0 st = againL L_avl_Get_0 1 i_avl_Get_k0 (app tab G0 1 [] (ex tab G0 1 i_avl_Get_b0 st)) := lp_eq tab G0 1 i_avl_Get_k0 i_avl_Get_b0 st
theorem L_avl_Get_0_in (K : List Fr) (st : St) : app tab G0 1 K (ex tab G0 1 (.loop i_avl_Get_k0 i_avl_Get_b0) st) = app tab G0 1 K (L_avl_Get_0 (clean 1 i_avl_Get_k0 st)) := rfl
attribute [go_sem] L_avl_Get_0_in
noncomputable def L_avl_take_0 (st : St) : Option (Ex × St) := lp tab G0 5 i_avl_take_k0 i_avl_take_b0 st
theorem L_avl_take_0_eq (st : St) : L_avl_take_0 st = againL L_avl_take_0 5 i_avl_take_k0 (app tab G0 5 [] (ex tab G0 5 i_avl_take_b0 st)) := lp_eq tab G0 5 i_avl_take_k0 i_avl_take_b0 st
theorem L_avl_take_0_in (K : List Fr) (st : St) : app tab G0 5 K (ex tab G0 5 (.loop i_avl_take_k0 i_avl_take_b0) st) = app tab G0 5 K (L_avl_take_0 (clean 5 i_avl_take_k0 st)) := rfl
attribute [go_sem] L_avl_take_0_in
end Go.Proofs.Ytebiajdkgpcidaa
