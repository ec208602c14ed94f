/- The IR of the seat's functions, printed by a program of this session. -/
import Derived.Test.YtkfaahjcncpmhaaEvE
set_option linter.unusedVariables false
namespace Go.Proofs.Ytkfaahjcncpmhaa
open Go.Ev

abbrev ty_int : Nat := 3
abbrev ty_uint8 : Nat := 5
abbrev ty_api_Code : Nat := 39
abbrev n_law17_ConfMost : Nat := 3
abbrev n_law17_ConfStep : Nat := 4
abbrev n_law17_ConfMeet : Nat := 5
abbrev n_law17_ConfBytes : Nat := 6
abbrev n_law17_up : Nat := 15
abbrev n_conf_Has : Nat := 16
abbrev n_ref17_Has : Nat := 17
abbrev n_conf_Most : Nat := 18
abbrev n_ref17_Most : Nat := 19
abbrev n_conf_Step : Nat := 20
abbrev n_ref17_Step : Nat := 21
abbrev n_ref17_Same : Nat := 22
abbrev n_conf_Bytes : Nat := 23
abbrev n_conf_Of : Nat := 24
abbrev n_ref17_May : Nat := 25
abbrev n_ref17_Of : Nat := 26
abbrev n_conf_May : Nat := 27
abbrev n_ref17_Bytes : Nat := 28
abbrev n_slices_Contains_sl_int_int : Nat := 53
abbrev n_slices_ContainsFunc_sl_int_int : Nat := 54
abbrev n_conf_Step_1 : Nat := 55
abbrev n_slices_Index_sl_int_int : Nat := 91
abbrev n_slices_IndexFunc_sl_int_int : Nat := 92
def i_law17_ConfMost_r : List Bool := [false, false, false, false, false, false, true, false, false, false, false, false, false, false, false, false, false, false, false, false, false, false, false, false, false, false, false, false, false, false, false, false, false, false, false, false, false]
/-- heartwood/heartwoodlaw17.ConfMost -/
def i_law17_ConfMost : Ev.Fn := ⟨3, 37, 0,
  (.seq
   (.reg [] [
     ⟨(some 6), .mv (.k (.bool false)), none, []⟩])
   (.seq
    (.reg [] [
      ⟨(some 8), .qcall n_law17_up [] [], none, []⟩,
      ⟨(some 7), .mv (.t 8), none, []⟩])
    (.seq
     (.seq
      (.reg [] [
        ⟨(some 9), .cn (.t 0), none, []⟩,
        ⟨(some 10), .len false (.t 9), none, []⟩,
        ⟨(some 11), .bin .plain .gtr (.t 10) (.k (.int .i64 1000)), none, []⟩,
        ⟨(some 12), .mv (.t 11), none, []⟩,
        ⟨(some 13), .cn (.t 1), (some (12, false)), []⟩,
        ⟨(some 14), .len false (.t 13), (some (12, false)), []⟩,
        ⟨(some 15), .bin .plain .gtr (.t 14) (.k (.int .i64 1000)), (some (12, false)), []⟩,
        ⟨(some 16), .pick (.t 12) (.k (.bool true)) (.t 15), none, []⟩])
      (.cond (.t 16)
       (.seq
        (.reg [] [
          ⟨(some 17), .mv (.t 7), none, []⟩,
          ⟨(some 6), .mv (.t 17), none, []⟩])
        (.ret i_law17_ConfMost_r))
       .skip))
     (.seq
      (.reg [] [
        ⟨(some 18), .mv (.t 7), none, []⟩,
        ⟨(some 19), .mv (.t 18), none, []⟩,
        ⟨(some 20), .cn (.t 0), (some (19, true)), []⟩,
        ⟨(some 21), .mv (.t 2), (some (19, true)), []⟩,
        ⟨(some 22), .qcall n_conf_Has [(.t 20), (.t 21)] [], (some (19, true)), []⟩,
        ⟨(some 23), .cn (.t 0), (some (19, true)), []⟩,
        ⟨(some 24), .mv (.t 2), (some (19, true)), []⟩,
        ⟨(some 25), .qcall n_ref17_Has [(.t 23), (.t 24)] [], (some (19, true)), []⟩,
        ⟨(some 26), .bin .bool .eql (.t 22) (.t 25), (some (19, true)), []⟩,
        ⟨(some 27), .pick (.t 19) (.t 26) (.k (.bool false)), none, []⟩,
        ⟨(some 28), .mv (.t 27), none, []⟩,
        ⟨(some 29), .cn (.t 0), (some (28, true)), []⟩,
        ⟨(some 30), .cn (.t 1), (some (28, true)), []⟩,
        ⟨(some 31), .qcall n_conf_Most [(.t 29), (.t 30)] [], (some (28, true)), []⟩,
        ⟨(some 32), .cn (.t 0), (some (28, true)), []⟩,
        ⟨(some 33), .cn (.t 1), (some (28, true)), []⟩,
        ⟨(some 34), .qcall n_ref17_Most [(.t 32), (.t 33)] [], (some (28, true)), []⟩,
        ⟨(some 35), .bin .bool .eql (.t 31) (.t 34), (some (28, true)), []⟩,
        ⟨(some 36), .pick (.t 28) (.t 35) (.k (.bool false)), none, []⟩,
        ⟨(some 6), .mv (.t 36), none, []⟩])
      (.ret i_law17_ConfMost_r))))),
  [.tmp 6], [], false, []⟩

def i_law17_up_r : List Bool := [true, false, false, false, false, false, false, false, false, false, false, false, false, false, false, false, false, false, false, false, false]
/-- heartwood/heartwoodlaw17.up -/
def i_law17_up : Ev.Fn := ⟨0, 21, 0,
  (.seq
   (.reg [] [
     ⟨(some 0), .mv (.k (.bool false)), none, []⟩])
   (.seq
    (.reg [] [
      ⟨(some 1), .litd 1 3 [(.int .i64 0)] [(0, (.k (.int .i64 1))), (1, (.k (.int .i64 2))), (2, (.k (.int .i64 3)))], none, []⟩,
      ⟨(some 2), .litd 1 3 [(.int .i64 0)] [(0, (.k (.int .i64 2))), (1, (.k (.int .i64 3))), (2, (.k (.int .i64 9)))], none, []⟩,
      ⟨(some 3), .qcall n_conf_Most [(.t 1), (.t 2)] [], none, []⟩,
      ⟨(some 4), .mv (.t 3), none, []⟩,
      ⟨(some 5), .litd 1 2 [(.int .i64 0)] [(0, (.k (.int .i64 1))), (1, (.k (.int .i64 2)))], (some (4, true)), []⟩,
      ⟨(some 6), .litd 1 1 [(.int .i64 0)] [(0, (.k (.int .i64 1)))], (some (4, true)), []⟩,
      ⟨(some 7), .qcall n_conf_Most [(.t 5), (.t 6)] [], (some (4, true)), []⟩,
      ⟨(some 8), .un .not (.t 7), (some (4, true)), []⟩,
      ⟨(some 9), .pick (.t 4) (.t 8) (.k (.bool false)), none, []⟩,
      ⟨(some 10), .mv (.t 9), none, []⟩,
      ⟨(some 11), .litd 1 2 [(.int .i64 0)] [(0, (.k (.int .i64 1))), (1, (.k (.int .i64 2)))], (some (10, true)), []⟩,
      ⟨(some 12), .litd 1 3 [(.int .i64 0)] [(0, (.k (.int .i64 1))), (1, (.k (.int .i64 2))), (2, (.k (.int .i64 3)))], (some (10, true)), []⟩,
      ⟨(some 13), .qcall n_conf_Step [(.t 11), (.t 12)] [], (some (10, true)), []⟩,
      ⟨(some 14), .pick (.t 10) (.t 13) (.k (.bool false)), none, []⟩,
      ⟨(some 15), .mv (.t 14), none, []⟩,
      ⟨(some 16), .litd 1 2 [(.int .i64 0)] [(0, (.k (.int .i64 1))), (1, (.k (.int .i64 2)))], (some (15, true)), []⟩,
      ⟨(some 17), .litd 1 2 [(.int .i64 0)] [(0, (.k (.int .i64 1))), (1, (.k (.int .i64 3)))], (some (15, true)), []⟩,
      ⟨(some 18), .qcall n_conf_Step [(.t 16), (.t 17)] [], (some (15, true)), []⟩,
      ⟨(some 19), .un .not (.t 18), (some (15, true)), []⟩,
      ⟨(some 20), .pick (.t 15) (.t 19) (.k (.bool false)), none, []⟩,
      ⟨(some 0), .mv (.t 20), none, []⟩])
    (.ret i_law17_up_r))),
  [.tmp 0], [], false, []⟩

def i_conf_Most_r : List Bool := [false, false, false, false, true, false, false, false, false, false, false, false, false, false, false, false, false, false, false, false, false, false, false, false, false, false, false, false, false]
def i_conf_Most_j1 : List Bool := [true, true, false, false, false, true, false, false, true, true, true, false, false, false, false, false, false, false, false, false, false, false, false, false, false, false, false, false, false]
def i_conf_Most_k0 : List Bool := [true, true, false, false, false, true, false, false, true, true, true, false, false, false, false, false, false, false, false, false, false, false, false, false, false, false, false, false, false]
def i_conf_Most_j0 : List Bool := [true, false, false, false, false, true, false, false, false, false, false, false, false, false, false, false, false, false, false, false, false, false, false, false, false, false, false, false, false]
abbrev s_conf_Most_R (t4 : AV) (h : Heap) : St := ⟨[.undef, .undef, .undef, .undef, t4, .undef, .undef, .undef, .undef, .undef, .undef, .undef, .undef, .undef, .undef, .undef, .undef, .undef, .undef, .undef, .undef, .undef, .undef, .undef, .undef, .undef, .undef, .undef, .undef], h⟩
abbrev s_conf_Most_K0 (t0 t1 t5 t8 t9 t10 : AV) (h : Heap) : St := ⟨[t0, t1, .undef, .undef, .undef, t5, .undef, .undef, t8, t9, t10, .undef, .undef, .undef, .undef, .undef, .undef, .undef, .undef, .undef, .undef, .undef, .undef, .undef, .undef, .undef, .undef, .undef, .undef], h⟩
def i_conf_Most_b0 : IR :=
  (.seq
   (.reg [] [
     ⟨(some 11), .bin .plain .lss (.t 10) (.t 9), none, []⟩])
   (.seq
    (.cond (.t 11)
     .skip
     (.exit 0 i_conf_Most_j0))
    (.seq
     (.block 1 i_conf_Most_j1
      (.seq
       (.reg [] [
         ⟨(some 12), .ia 1 (.t 8) (.t 10), none, []⟩,
         ⟨(some 13), .load false 1 (.t 12), none, []⟩,
         ⟨(some 7), .mv (.t 13), none, []⟩])
       (.seq
        (.reg [] [
          ⟨(some 14), .cn (.t 1), none, []⟩,
          ⟨(some 15), .mv (.t 7), none, []⟩,
          ⟨(some 16), .qcall n_conf_Has [(.t 14), (.t 15)] [], none, []⟩])
        (.cond (.t 16)
         (.reg [] [
           ⟨(some 17), .mv (.t 5), none, []⟩,
           ⟨(some 18), .bin .plain .add (.t 17) (.k (.int .i64 1)), none, []⟩,
           ⟨(some 5), .mv (.t 18), none, []⟩])
         .skip))))
     (.reg [] [
       ⟨(some 19), .bin .plain .add (.t 10) (.k (.int .i64 1)), none, []⟩,
       ⟨(some 10), .mv (.t 19), none, []⟩]))))

abbrev s_conf_Most_J0 (t0 t5 : AV) (h : Heap) : St := ⟨[t0, .undef, .undef, .undef, .undef, t5, .undef, .undef, .undef, .undef, .undef, .undef, .undef, .undef, .undef, .undef, .undef, .undef, .undef, .undef, .undef, .undef, .undef, .undef, .undef, .undef, .undef, .undef, .undef], h⟩
/-- heartwood/conf.Most -/
def i_conf_Most : Ev.Fn := ⟨2, 29, 0,
  (.seq
   (.reg [] [
     ⟨(some 4), .mv (.k (.bool false)), none, []⟩])
   (.seq
    (.reg [] [
      ⟨(some 5), .mv (.k (.int .i64 0)), none, []⟩])
    (.seq
     (.seq
      (.reg [] [
        ⟨(some 8), .cn (.t 0), none, []⟩,
        ⟨(some 9), .len false (.t 8), none, []⟩,
        ⟨(some 10), .mv (.k (.int .i64 0)), none, []⟩])
      (.block 0 i_conf_Most_j0
       (.loop i_conf_Most_k0 i_conf_Most_b0)))
     (.seq
      (.reg [] [
        ⟨(some 20), .cn (.t 0), none, []⟩,
        ⟨(some 21), .qcall n_conf_May [(.t 20)] [], none, []⟩,
        ⟨(some 22), .mv (.t 21), none, []⟩,
        ⟨(some 23), .mv (.t 5), (some (22, true)), []⟩,
        ⟨(some 24), .bin .plain .mul (.k (.int .i64 2)) (.t 23), (some (22, true)), []⟩,
        ⟨(some 25), .cn (.t 0), (some (22, true)), []⟩,
        ⟨(some 26), .len false (.t 25), (some (22, true)), []⟩,
        ⟨(some 27), .bin .plain .gtr (.t 24) (.t 26), (some (22, true)), []⟩,
        ⟨(some 28), .pick (.t 22) (.t 27) (.k (.bool false)), none, []⟩,
        ⟨(some 4), .mv (.t 28), none, []⟩])
      (.ret i_conf_Most_r))))),
  [.tmp 4], [], false, []⟩

def i_conf_Has_r : List Bool := [false, false, false, false, true, false, false, false]
/-- heartwood/conf.Has -/
def i_conf_Has : Ev.Fn := ⟨2, 8, 0,
  (.seq
   (.reg [] [
     ⟨(some 4), .mv (.k (.bool false)), none, []⟩])
   (.seq
    (.reg [] [
      ⟨(some 5), .cn (.t 0), none, []⟩,
      ⟨(some 6), .mv (.t 1), none, []⟩,
      ⟨(some 7), .qcall n_slices_Contains_sl_int_int [(.t 5), (.t 6)] [], none, []⟩,
      ⟨(some 4), .mv (.t 7), none, []⟩])
    (.ret i_conf_Has_r))),
  [.tmp 4], [], false, []⟩

def i_slices_Contains_sl_int_int_r : List Bool := [false, false, false, false, true, false, false, false, false]
/-- slices.Contains[[]int,int] -/
def i_slices_Contains_sl_int_int : Ev.Fn := ⟨2, 9, 0,
  (.seq
   (.reg [] [
     ⟨(some 4), .mv (.k (.bool false)), none, []⟩])
   (.seq
    (.reg [] [
      ⟨(some 5), .cn (.t 0), none, []⟩,
      ⟨(some 6), .mv (.t 1), none, []⟩,
      ⟨(some 7), .qcall n_slices_Index_sl_int_int [(.t 5), (.t 6)] [], none, []⟩,
      ⟨(some 8), .bin .plain .geq (.t 7) (.k (.int .i64 0)), none, []⟩,
      ⟨(some 4), .mv (.t 8), none, []⟩])
    (.ret i_slices_Contains_sl_int_int_r))),
  [.tmp 4], [], false, []⟩

def i_slices_Index_sl_int_int_r : List Bool := [false, false, false, false, true, false, false, false, false, false, false, false, false, false, false, false, false, false, false]
def i_slices_Index_sl_int_int_j1 : List Bool := [true, true, false, false, false, false, false, true, true, false, false, false, false, false, false, false, false, false, false]
def i_slices_Index_sl_int_int_k0 : List Bool := [true, true, false, false, false, false, false, true, true, false, false, false, false, false, false, false, false, false, false]
def i_slices_Index_sl_int_int_j0 : List Bool := [false, false, false, false, false, false, false, false, false, false, false, false, false, false, false, false, false, false, false]
abbrev s_slices_Index_sl_int_int_R (t4 : AV) (h : Heap) : St := ⟨[.undef, .undef, .undef, .undef, t4, .undef, .undef, .undef, .undef, .undef, .undef, .undef, .undef, .undef, .undef, .undef, .undef, .undef, .undef], h⟩
abbrev s_slices_Index_sl_int_int_K0 (t0 t1 t7 t8 : AV) (h : Heap) : St := ⟨[t0, t1, .undef, .undef, .undef, .undef, .undef, t7, t8, .undef, .undef, .undef, .undef, .undef, .undef, .undef, .undef, .undef, .undef], h⟩
def i_slices_Index_sl_int_int_b0 : IR :=
  (.seq
   (.reg [] [
     ⟨(some 9), .bin .plain .lss (.t 8) (.t 7), none, []⟩])
   (.seq
    (.cond (.t 9)
     .skip
     (.exit 0 i_slices_Index_sl_int_int_j0))
    (.seq
     (.block 1 i_slices_Index_sl_int_int_j1
      (.seq
       (.reg [] [
         ⟨(some 10), .mv (.t 8), none, []⟩,
         ⟨(some 5), .mv (.t 10), none, []⟩])
       (.seq
        (.reg [] [
          ⟨(some 11), .mv (.t 1), none, []⟩,
          ⟨(some 12), .cn (.t 0), none, []⟩,
          ⟨(some 13), .mv (.t 5), none, []⟩,
          ⟨(some 14), .ia 1 (.t 12) (.t 13), none, []⟩,
          ⟨(some 15), .load false 1 (.t 14), none, []⟩,
          ⟨(some 16), .bin .plain .eql (.t 11) (.t 15), none, []⟩])
        (.cond (.t 16)
         (.seq
          (.reg [] [
            ⟨(some 17), .mv (.t 5), none, []⟩,
            ⟨(some 4), .mv (.t 17), none, []⟩])
          (.ret i_slices_Index_sl_int_int_r))
         .skip))))
     (.reg [] [
       ⟨(some 18), .bin .plain .add (.t 8) (.k (.int .i64 1)), none, []⟩,
       ⟨(some 8), .mv (.t 18), none, []⟩]))))

abbrev s_slices_Index_sl_int_int_J0 (h : Heap) : St := ⟨[.undef, .undef, .undef, .undef, .undef, .undef, .undef, .undef, .undef, .undef, .undef, .undef, .undef, .undef, .undef, .undef, .undef, .undef, .undef], h⟩
/-- slices.Index[[]int,int] -/
def i_slices_Index_sl_int_int : Ev.Fn := ⟨2, 19, 0,
  (.seq
   (.reg [] [
     ⟨(some 4), .mv (.k (.int .i64 0)), none, []⟩])
   (.seq
    (.seq
     (.reg [] [
       ⟨(some 6), .cn (.t 0), none, []⟩,
       ⟨(some 7), .len false (.t 6), none, []⟩,
       ⟨(some 8), .mv (.k (.int .i64 0)), none, []⟩])
     (.block 0 i_slices_Index_sl_int_int_j0
      (.loop i_slices_Index_sl_int_int_k0 i_slices_Index_sl_int_int_b0)))
    (.seq
     (.reg [] [
       ⟨(some 4), .mv (.k (.int .i64 (-1))), none, []⟩])
     (.ret i_slices_Index_sl_int_int_r)))),
  [.tmp 4], [], false, []⟩

def i_conf_May_r : List Bool := [false, false, true, false, false, false, false, false, false, false, false, false, false, false, false, false, false, false, false, false, false, false, false, false, false, false, false, false, false, false, false, false, false, false, false]
def i_conf_May_j1 : List Bool := [true, false, false, false, false, true, true, true, false, false, false, false, false, false, false, false, false, false, false, false, false, false, false, false, false, false, false, false, false, false, false, false, false, false, false]
def i_conf_May_k0 : List Bool := [true, false, false, false, false, true, true, true, false, false, false, false, false, false, false, false, false, false, false, false, false, false, false, false, false, false, false, false, false, false, false, false, false, false, false]
def i_conf_May_j0 : List Bool := [true, false, false, false, false, false, false, false, false, false, false, false, false, false, false, false, false, false, false, false, false, false, false, false, false, false, false, false, false, false, false, false, false, false, false]
abbrev s_conf_May_R (t2 : AV) (h : Heap) : St := ⟨[.undef, .undef, t2, .undef, .undef, .undef, .undef, .undef, .undef, .undef, .undef, .undef, .undef, .undef, .undef, .undef, .undef, .undef, .undef, .undef, .undef, .undef, .undef, .undef, .undef, .undef, .undef, .undef, .undef, .undef, .undef, .undef, .undef, .undef, .undef], h⟩
abbrev s_conf_May_K0 (t0 t5 t6 t7 : AV) (h : Heap) : St := ⟨[t0, .undef, .undef, .undef, .undef, t5, t6, t7, .undef, .undef, .undef, .undef, .undef, .undef, .undef, .undef, .undef, .undef, .undef, .undef, .undef, .undef, .undef, .undef, .undef, .undef, .undef, .undef, .undef, .undef, .undef, .undef, .undef, .undef, .undef], h⟩
def i_conf_May_b0 : IR :=
  (.seq
   (.reg [] [
     ⟨(some 8), .bin .plain .lss (.t 7) (.t 6), none, []⟩])
   (.seq
    (.cond (.t 8)
     .skip
     (.exit 0 i_conf_May_j0))
    (.seq
     (.block 1 i_conf_May_j1
      (.seq
       (.reg [] [
         ⟨(some 9), .mv (.t 7), none, []⟩,
         ⟨(some 10), .ia 1 (.t 5) (.t 7), none, []⟩,
         ⟨(some 11), .load false 1 (.t 10), none, []⟩,
         ⟨(some 3), .mv (.t 9), none, []⟩,
         ⟨(some 4), .mv (.t 11), none, []⟩])
       (.seq
        (.reg [] [
          ⟨(some 12), .mv (.t 4), none, []⟩,
          ⟨(some 13), .bin .plain .lss (.t 12) (.k (.int .i64 1)), none, []⟩,
          ⟨(some 14), .mv (.t 13), none, []⟩,
          ⟨(some 15), .mv (.t 4), (some (14, false)), []⟩,
          ⟨(some 16), .bin .plain .gtr (.t 15) (.k (.int .i64 7)), (some (14, false)), []⟩,
          ⟨(some 17), .pick (.t 14) (.k (.bool true)) (.t 16), none, []⟩,
          ⟨(some 18), .mv (.t 17), none, []⟩,
          ⟨(some 19), .mv (.t 3), (some (18, false)), []⟩,
          ⟨(some 20), .bin .plain .gtr (.t 19) (.k (.int .i64 0)), (some (18, false)), []⟩,
          ⟨(some 21), .mv (.t 20), (some (18, false)), []⟩,
          ⟨(some 22), .mv (.t 4), (some (21, true)), []⟩,
          ⟨(some 23), .cn (.t 0), (some (21, true)), []⟩,
          ⟨(some 24), .mv (.t 3), (some (21, true)), []⟩,
          ⟨(some 25), .bin .plain .sub (.t 24) (.k (.int .i64 1)), (some (21, true)), []⟩,
          ⟨(some 26), .ia 1 (.t 23) (.t 25), (some (21, true)), []⟩,
          ⟨(some 27), .load false 1 (.t 26), (some (21, true)), []⟩,
          ⟨(some 28), .bin .plain .leq (.t 22) (.t 27), (some (21, true)), []⟩,
          ⟨(some 29), .pick (.t 21) (.t 28) (.k (.bool false)), (some (18, false)), []⟩,
          ⟨(some 30), .pick (.t 18) (.k (.bool true)) (.t 29), none, []⟩])
        (.cond (.t 30)
         (.seq
          (.reg [] [
            ⟨(some 2), .mv (.k (.bool false)), none, []⟩])
          (.ret i_conf_May_r))
         .skip))))
     (.reg [] [
       ⟨(some 31), .bin .plain .add (.t 7) (.k (.int .i64 1)), none, []⟩,
       ⟨(some 7), .mv (.t 31), none, []⟩]))))

abbrev s_conf_May_J0 (t0 : AV) (h : Heap) : St := ⟨[t0, .undef, .undef, .undef, .undef, .undef, .undef, .undef, .undef, .undef, .undef, .undef, .undef, .undef, .undef, .undef, .undef, .undef, .undef, .undef, .undef, .undef, .undef, .undef, .undef, .undef, .undef, .undef, .undef, .undef, .undef, .undef, .undef, .undef, .undef], h⟩
/-- heartwood/conf.May -/
def i_conf_May : Ev.Fn := ⟨1, 35, 0,
  (.seq
   (.reg [] [
     ⟨(some 2), .mv (.k (.bool false)), none, []⟩])
   (.seq
    (.seq
     (.reg [] [
       ⟨(some 5), .cn (.t 0), none, []⟩,
       ⟨(some 6), .len false (.t 5), none, []⟩,
       ⟨(some 7), .mv (.k (.int .i64 0)), none, []⟩])
     (.block 0 i_conf_May_j0
      (.loop i_conf_May_k0 i_conf_May_b0)))
    (.seq
     (.reg [] [
       ⟨(some 32), .cn (.t 0), none, []⟩,
       ⟨(some 33), .len false (.t 32), none, []⟩,
       ⟨(some 34), .bin .plain .gtr (.t 33) (.k (.int .i64 0)), none, []⟩,
       ⟨(some 2), .mv (.t 34), none, []⟩])
     (.ret i_conf_May_r)))),
  [.tmp 2], [], false, []⟩

def i_conf_Step_r : List Bool := [false, false, false, false, true, false, false, false, false, false, false, false, false, false, false, false, false, false, false, false, false, false, false, false, false, false, false, false, false, false, false, false]
/-- heartwood/conf.Step -/
def i_conf_Step : Ev.Fn := ⟨2, 32, 1,
  (.seq
   (.reg [] [
     ⟨(some 3), .box 0 1 (.t 1), none, []⟩,
     ⟨(some 4), .mv (.k (.bool false)), none, []⟩])
   (.seq
    (.seq
     (.reg [] [
       ⟨(some 5), .cn (.t 0), none, []⟩,
       ⟨(some 6), .len false (.t 5), none, []⟩,
       ⟨(some 7), .load false 1 (.t 3), none, []⟩,
       ⟨(some 8), .len false (.t 7), none, []⟩,
       ⟨(some 9), .bin .plain .gtr (.t 6) (.t 8), none, []⟩])
     (.cond (.t 9)
      (.reg [] [
        ⟨(some 10), .load false 1 (.t 3), none, []⟩,
        ⟨(some 11), .cn (.t 0), none, []⟩,
        ⟨(some 0), .cn (.t 10), none, []⟩,
        ⟨none, .store 1 (.t 3) (.t 11), none, []⟩])
      .skip))
    (.seq
     (.reg [] [
       ⟨(some 12), .cn (.t 0), none, []⟩,
       ⟨(some 13), .qcall n_conf_May [(.t 12)] [], none, []⟩,
       ⟨(some 14), .mv (.t 13), none, []⟩,
       ⟨(some 15), .load false 1 (.t 3), (some (14, true)), []⟩,
       ⟨(some 16), .qcall n_conf_May [(.t 15)] [], (some (14, true)), []⟩,
       ⟨(some 17), .pick (.t 14) (.t 16) (.k (.bool false)), none, []⟩,
       ⟨(some 18), .mv (.t 17), none, []⟩,
       ⟨(some 19), .load false 1 (.t 3), (some (18, true)), []⟩,
       ⟨(some 20), .len false (.t 19), (some (18, true)), []⟩,
       ⟨(some 21), .cn (.t 0), (some (18, true)), []⟩,
       ⟨(some 22), .len false (.t 21), (some (18, true)), []⟩,
       ⟨(some 23), .bin .plain .add (.t 22) (.k (.int .i64 1)), (some (18, true)), []⟩,
       ⟨(some 24), .bin .plain .eql (.t 20) (.t 23), (some (18, true)), []⟩,
       ⟨(some 25), .pick (.t 18) (.t 24) (.k (.bool false)), none, []⟩,
       ⟨(some 26), .mv (.t 25), none, []⟩,
       ⟨(some 27), .cn (.t 0), (some (26, true)), []⟩,
       ⟨(some 28), .mkf n_conf_Step_1 [(.t 3)], (some (26, true)), []⟩,
       ⟨(some 29), .call n_slices_ContainsFunc_sl_int_int [(.t 27), (.t 28)] [], (some (26, true)), []⟩,
       ⟨(some 30), .un .not (.t 29), (some (26, true)), []⟩,
       ⟨(some 31), .pick (.t 26) (.t 30) (.k (.bool false)), none, []⟩,
       ⟨(some 4), .mv (.t 31), none, []⟩])
     (.ret i_conf_Step_r)))),
  [.tmp 4], [], false, []⟩

def i_conf_Step_1_r : List Bool := [false, false, false, true, false, false, false, false]
/-- heartwood/conf.Step$1 -/
def i_conf_Step_1 : Ev.Fn := ⟨2, 8, 0,
  (.seq
   (.reg [] [
     ⟨(some 3), .mv (.k (.bool false)), none, []⟩])
   (.seq
    (.reg [] [
      ⟨(some 4), .load false 1 (.t 1), none, []⟩,
      ⟨(some 5), .mv (.t 0), none, []⟩,
      ⟨(some 6), .qcall n_conf_Has [(.t 4), (.t 5)] [], none, [4]⟩,
      ⟨(some 7), .un .not (.t 6), none, []⟩,
      ⟨(some 3), .mv (.t 7), none, []⟩])
    (.ret i_conf_Step_1_r))),
  [.tmp 3], [], false, []⟩

def i_slices_ContainsFunc_sl_int_int_r : List Bool := [false, false, false, false, true, false, false, false, false]
/-- slices.ContainsFunc[[]int,int] -/
def i_slices_ContainsFunc_sl_int_int : Ev.Fn := ⟨2, 9, 0,
  (.seq
   (.reg [] [
     ⟨(some 4), .mv (.k (.bool false)), none, []⟩])
   (.seq
    (.reg [] [
      ⟨(some 5), .cn (.t 0), none, []⟩,
      ⟨(some 6), .mv (.t 1), none, []⟩,
      ⟨(some 7), .call n_slices_IndexFunc_sl_int_int [(.t 5), (.t 6)] [], none, []⟩,
      ⟨(some 8), .bin .plain .geq (.t 7) (.k (.int .i64 0)), none, []⟩,
      ⟨(some 4), .mv (.t 8), none, []⟩])
    (.ret i_slices_ContainsFunc_sl_int_int_r))),
  [.tmp 4], [], false, []⟩

def i_slices_IndexFunc_sl_int_int_r : List Bool := [false, false, false, false, true, false, false, false, false, false, false, false, false, false, false, false, false, false, false]
def i_slices_IndexFunc_sl_int_int_j1 : List Bool := [true, true, false, false, false, false, false, true, true, false, false, false, false, false, false, false, false, false, false]
def i_slices_IndexFunc_sl_int_int_k0 : List Bool := [true, true, false, false, false, false, false, true, true, false, false, false, false, false, false, false, false, false, false]
def i_slices_IndexFunc_sl_int_int_j0 : List Bool := [false, false, false, false, false, false, false, false, false, false, false, false, false, false, false, false, false, false, false]
abbrev s_slices_IndexFunc_sl_int_int_R (t4 : AV) (h : Heap) : St := ⟨[.undef, .undef, .undef, .undef, t4, .undef, .undef, .undef, .undef, .undef, .undef, .undef, .undef, .undef, .undef, .undef, .undef, .undef, .undef], h⟩
abbrev s_slices_IndexFunc_sl_int_int_K0 (t0 t1 t7 t8 : AV) (h : Heap) : St := ⟨[t0, t1, .undef, .undef, .undef, .undef, .undef, t7, t8, .undef, .undef, .undef, .undef, .undef, .undef, .undef, .undef, .undef, .undef], h⟩
def i_slices_IndexFunc_sl_int_int_b0 : IR :=
  (.seq
   (.reg [] [
     ⟨(some 9), .bin .plain .lss (.t 8) (.t 7), none, []⟩])
   (.seq
    (.cond (.t 9)
     .skip
     (.exit 0 i_slices_IndexFunc_sl_int_int_j0))
    (.seq
     (.block 1 i_slices_IndexFunc_sl_int_int_j1
      (.seq
       (.reg [] [
         ⟨(some 10), .mv (.t 8), none, []⟩,
         ⟨(some 5), .mv (.t 10), none, []⟩])
       (.seq
        (.reg [] [
          ⟨(some 11), .mv (.t 1), none, []⟩,
          ⟨(some 12), .cn (.t 0), none, []⟩,
          ⟨(some 13), .mv (.t 5), none, []⟩,
          ⟨(some 14), .ia 1 (.t 12) (.t 13), none, []⟩,
          ⟨(some 15), .load false 1 (.t 14), none, []⟩,
          ⟨(some 16), .callv (.t 11) [(.t 15)] [], none, []⟩])
        (.cond (.t 16)
         (.seq
          (.reg [] [
            ⟨(some 17), .mv (.t 5), none, []⟩,
            ⟨(some 4), .mv (.t 17), none, []⟩])
          (.ret i_slices_IndexFunc_sl_int_int_r))
         .skip))))
     (.reg [] [
       ⟨(some 18), .bin .plain .add (.t 8) (.k (.int .i64 1)), none, []⟩,
       ⟨(some 8), .mv (.t 18), none, []⟩]))))

abbrev s_slices_IndexFunc_sl_int_int_J0 (h : Heap) : St := ⟨[.undef, .undef, .undef, .undef, .undef, .undef, .undef, .undef, .undef, .undef, .undef, .undef, .undef, .undef, .undef, .undef, .undef, .undef, .undef], h⟩
/-- slices.IndexFunc[[]int,int] -/
def i_slices_IndexFunc_sl_int_int : Ev.Fn := ⟨2, 19, 0,
  (.seq
   (.reg [] [
     ⟨(some 4), .mv (.k (.int .i64 0)), none, []⟩])
   (.seq
    (.seq
     (.reg [] [
       ⟨(some 6), .cn (.t 0), none, []⟩,
       ⟨(some 7), .len false (.t 6), none, []⟩,
       ⟨(some 8), .mv (.k (.int .i64 0)), none, []⟩])
     (.block 0 i_slices_IndexFunc_sl_int_int_j0
      (.loop i_slices_IndexFunc_sl_int_int_k0 i_slices_IndexFunc_sl_int_int_b0)))
    (.seq
     (.reg [] [
       ⟨(some 4), .mv (.k (.int .i64 (-1))), none, []⟩])
     (.ret i_slices_IndexFunc_sl_int_int_r)))),
  [.tmp 4], [], false, []⟩

def i_ref17_Has_r : List Bool := [false, false, false, false, true, false, false, false, false, false, false, false, false, false, false, false, false, false]
def i_ref17_Has_j1 : List Bool := [true, true, false, false, false, true, false, false, false, false, false, false, false, false, false, false, false, false]
def i_ref17_Has_k0 : List Bool := [true, true, false, false, false, true, false, false, false, false, false, false, false, false, false, false, false, false]
def i_ref17_Has_j0 : List Bool := [false, false, false, false, false, false, false, false, false, false, false, false, false, false, false, false, false, false]
abbrev s_ref17_Has_R (t4 : AV) (h : Heap) : St := ⟨[.undef, .undef, .undef, .undef, t4, .undef, .undef, .undef, .undef, .undef, .undef, .undef, .undef, .undef, .undef, .undef, .undef, .undef], h⟩
abbrev s_ref17_Has_K0 (t0 t1 t5 : AV) (h : Heap) : St := ⟨[t0, t1, .undef, .undef, .undef, t5, .undef, .undef, .undef, .undef, .undef, .undef, .undef, .undef, .undef, .undef, .undef, .undef], h⟩
def i_ref17_Has_b0 : IR :=
  (.seq
   (.seq
    (.reg [] [
      ⟨(some 6), .mv (.t 5), none, []⟩,
      ⟨(some 7), .cn (.t 0), none, []⟩,
      ⟨(some 8), .len false (.t 7), none, []⟩,
      ⟨(some 9), .bin .plain .lss (.t 6) (.t 8), none, []⟩])
    (.cond (.t 9)
     .skip
     (.exit 0 i_ref17_Has_j0)))
   (.seq
    (.block 1 i_ref17_Has_j1
     (.seq
      (.reg [] [
        ⟨(some 12), .cn (.t 0), none, []⟩,
        ⟨(some 13), .mv (.t 5), none, []⟩,
        ⟨(some 14), .ia 1 (.t 12) (.t 13), none, []⟩,
        ⟨(some 15), .load false 1 (.t 14), none, []⟩,
        ⟨(some 16), .mv (.t 1), none, []⟩,
        ⟨(some 17), .bin .plain .eql (.t 15) (.t 16), none, []⟩])
      (.cond (.t 17)
       (.seq
        (.reg [] [
          ⟨(some 4), .mv (.k (.bool true)), none, []⟩])
        (.ret i_ref17_Has_r))
       .skip)))
    (.reg [] [
      ⟨(some 10), .mv (.t 5), none, []⟩,
      ⟨(some 11), .bin .plain .add (.t 10) (.k (.int .i64 1)), none, []⟩,
      ⟨(some 5), .mv (.t 11), none, []⟩])))

abbrev s_ref17_Has_J0 (h : Heap) : St := ⟨[.undef, .undef, .undef, .undef, .undef, .undef, .undef, .undef, .undef, .undef, .undef, .undef, .undef, .undef, .undef, .undef, .undef, .undef], h⟩
/-- heartwood/heartwoodref17.Has -/
def i_ref17_Has : Ev.Fn := ⟨2, 18, 0,
  (.seq
   (.reg [] [
     ⟨(some 4), .mv (.k (.bool false)), none, []⟩])
   (.seq
    (.seq
     (.reg [] [
       ⟨(some 5), .mv (.k (.int .i64 0)), none, []⟩])
     (.block 0 i_ref17_Has_j0
      (.loop i_ref17_Has_k0 i_ref17_Has_b0)))
    (.seq
     (.reg [] [
       ⟨(some 4), .mv (.k (.bool false)), none, []⟩])
     (.ret i_ref17_Has_r)))),
  [.tmp 4], [], false, []⟩

def i_ref17_Most_r : List Bool := [false, false, false, false, true, false, false, false, false, false, false, false, false, false, false, false, false, false, false, false, false, false, false, false, false, false, false, false, false, false, false, false, false, false]
def i_ref17_Most_j1 : List Bool := [true, true, false, false, false, true, true, true, false, false, false, false, false, false, false, false, false, false, false, false, false, false, false, false, false, false, false, false, false, false, false, false, false, false]
def i_ref17_Most_k0 : List Bool := [true, true, false, false, false, true, true, true, false, false, false, false, false, false, false, false, false, false, false, false, false, false, false, false, false, false, false, false, false, false, false, false, false, false]
def i_ref17_Most_j0 : List Bool := [true, false, false, false, false, true, true, false, false, false, false, false, false, false, false, false, false, false, false, false, false, false, false, false, false, false, false, false, false, false, false, false, false, false]
abbrev s_ref17_Most_R (t4 : AV) (h : Heap) : St := ⟨[.undef, .undef, .undef, .undef, t4, .undef, .undef, .undef, .undef, .undef, .undef, .undef, .undef, .undef, .undef, .undef, .undef, .undef, .undef, .undef, .undef, .undef, .undef, .undef, .undef, .undef, .undef, .undef, .undef, .undef, .undef, .undef, .undef, .undef], h⟩
abbrev s_ref17_Most_K0 (t0 t1 t5 t6 t7 : AV) (h : Heap) : St := ⟨[t0, t1, .undef, .undef, .undef, t5, t6, t7, .undef, .undef, .undef, .undef, .undef, .undef, .undef, .undef, .undef, .undef, .undef, .undef, .undef, .undef, .undef, .undef, .undef, .undef, .undef, .undef, .undef, .undef, .undef, .undef, .undef, .undef], h⟩
def i_ref17_Most_b0 : IR :=
  (.seq
   (.seq
    (.reg [] [
      ⟨(some 11), .mv (.t 7), none, []⟩,
      ⟨(some 12), .cn (.t 0), none, []⟩,
      ⟨(some 13), .len false (.t 12), none, []⟩,
      ⟨(some 14), .bin .plain .lss (.t 11) (.t 13), none, []⟩])
    (.cond (.t 14)
     .skip
     (.exit 0 i_ref17_Most_j0)))
   (.seq
    (.block 1 i_ref17_Most_j1
     (.seq
      (.reg [] [
        ⟨(some 17), .cn (.t 1), none, []⟩,
        ⟨(some 18), .cn (.t 0), none, []⟩,
        ⟨(some 19), .mv (.t 7), none, []⟩,
        ⟨(some 20), .ia 1 (.t 18) (.t 19), none, []⟩,
        ⟨(some 21), .load false 1 (.t 20), none, []⟩,
        ⟨(some 22), .qcall n_ref17_Has [(.t 17), (.t 21)] [], none, []⟩,
        ⟨(some 8), .mv (.t 22), none, []⟩])
      (.seq
       (.reg [] [
         ⟨(some 23), .mv (.t 8), none, []⟩])
       (.cond (.t 23)
        (.reg [] [
          ⟨(some 24), .mv (.t 6), none, []⟩,
          ⟨(some 25), .bin .plain .add (.t 24) (.k (.int .i64 1)), none, []⟩,
          ⟨(some 6), .mv (.t 25), none, []⟩])
        .skip))))
    (.reg [] [
      ⟨(some 15), .mv (.t 7), none, []⟩,
      ⟨(some 16), .bin .plain .add (.t 15) (.k (.int .i64 1)), none, []⟩,
      ⟨(some 7), .mv (.t 16), none, []⟩])))

abbrev s_ref17_Most_J0 (t0 t5 t6 : AV) (h : Heap) : St := ⟨[t0, .undef, .undef, .undef, .undef, t5, t6, .undef, .undef, .undef, .undef, .undef, .undef, .undef, .undef, .undef, .undef, .undef, .undef, .undef, .undef, .undef, .undef, .undef, .undef, .undef, .undef, .undef, .undef, .undef, .undef, .undef, .undef, .undef], h⟩
/-- heartwood/heartwoodref17.Most -/
def i_ref17_Most : Ev.Fn := ⟨2, 34, 0,
  (.seq
   (.reg [] [
     ⟨(some 4), .mv (.k (.bool false)), none, []⟩])
   (.seq
    (.reg [] [
      ⟨(some 9), .cn (.t 0), none, []⟩,
      ⟨(some 10), .qcall n_ref17_May [(.t 9)] [], none, []⟩,
      ⟨(some 5), .mv (.t 10), none, []⟩])
    (.seq
     (.reg [] [
       ⟨(some 6), .mv (.k (.int .i64 0)), none, []⟩])
     (.seq
      (.seq
       (.reg [] [
         ⟨(some 7), .mv (.k (.int .i64 0)), none, []⟩])
       (.block 0 i_ref17_Most_j0
        (.loop i_ref17_Most_k0 i_ref17_Most_b0)))
      (.seq
       (.reg [] [
         ⟨(some 26), .mv (.t 5), none, []⟩,
         ⟨(some 27), .mv (.t 26), none, []⟩,
         ⟨(some 28), .mv (.t 6), (some (27, true)), []⟩,
         ⟨(some 29), .cn (.t 0), (some (27, true)), []⟩,
         ⟨(some 30), .len false (.t 29), (some (27, true)), []⟩,
         ⟨(some 31), .bin .plain .quo (.t 30) (.k (.int .i64 2)), (some (27, true)), []⟩,
         ⟨(some 32), .bin .plain .gtr (.t 28) (.t 31), (some (27, true)), []⟩,
         ⟨(some 33), .pick (.t 27) (.t 32) (.k (.bool false)), none, []⟩,
         ⟨(some 4), .mv (.t 33), none, []⟩])
       (.ret i_ref17_Most_r)))))),
  [.tmp 4], [], false, []⟩

def i_ref17_May_r : List Bool := [false, false, true, false, false, false, false, false, false, false, false, false, false, false, false, false, false, false, false, false, false, false, false, false, false, false, false, false, false, false, false, false, false, false, false, false, false, false, false, false, false, false, false, false, false, false]
def i_ref17_May_j1 : List Bool := [true, false, false, true, false, false, false, false, false, false, false, false, false, false, false, false, false, false, false, false, false, false, false, false, false, false, false, false, false, false, false, false, false, false, false, false, false, false, false, false, false, false, false, false, false, false]
def i_ref17_May_k0 : List Bool := [true, false, false, true, false, false, false, false, false, false, false, false, false, false, false, false, false, false, false, false, false, false, false, false, false, false, false, false, false, false, false, false, false, false, false, false, false, false, false, false, false, false, false, false, false, false]
def i_ref17_May_j0 : List Bool := [false, false, false, false, false, false, false, false, false, false, false, false, false, false, false, false, false, false, false, false, false, false, false, false, false, false, false, false, false, false, false, false, false, false, false, false, false, false, false, false, false, false, false, false, false, false]
abbrev s_ref17_May_R (t2 : AV) (h : Heap) : St := ⟨[.undef, .undef, t2, .undef, .undef, .undef, .undef, .undef, .undef, .undef, .undef, .undef, .undef, .undef, .undef, .undef, .undef, .undef, .undef, .undef, .undef, .undef, .undef, .undef, .undef, .undef, .undef, .undef, .undef, .undef, .undef, .undef, .undef, .undef, .undef, .undef, .undef, .undef, .undef, .undef, .undef, .undef, .undef, .undef, .undef, .undef], h⟩
abbrev s_ref17_May_K0 (t0 t3 : AV) (h : Heap) : St := ⟨[t0, .undef, .undef, t3, .undef, .undef, .undef, .undef, .undef, .undef, .undef, .undef, .undef, .undef, .undef, .undef, .undef, .undef, .undef, .undef, .undef, .undef, .undef, .undef, .undef, .undef, .undef, .undef, .undef, .undef, .undef, .undef, .undef, .undef, .undef, .undef, .undef, .undef, .undef, .undef, .undef, .undef, .undef, .undef, .undef, .undef], h⟩
def i_ref17_May_b0 : IR :=
  (.seq
   (.seq
    (.reg [] [
      ⟨(some 12), .mv (.t 3), none, []⟩,
      ⟨(some 13), .cn (.t 0), none, []⟩,
      ⟨(some 14), .len false (.t 13), none, []⟩,
      ⟨(some 15), .bin .plain .lss (.t 12) (.t 14), none, []⟩])
    (.cond (.t 15)
     .skip
     (.exit 0 i_ref17_May_j0)))
   (.seq
    (.block 1 i_ref17_May_j1
     (.seq
      (.reg [] [
        ⟨(some 18), .cn (.t 0), none, []⟩,
        ⟨(some 19), .mv (.t 3), none, []⟩,
        ⟨(some 20), .ia 1 (.t 18) (.t 19), none, []⟩,
        ⟨(some 21), .load false 1 (.t 20), none, []⟩,
        ⟨(some 22), .bin .plain .lss (.t 21) (.k (.int .i64 1)), none, []⟩,
        ⟨(some 23), .mv (.t 22), none, []⟩,
        ⟨(some 24), .cn (.t 0), (some (23, false)), []⟩,
        ⟨(some 25), .mv (.t 3), (some (23, false)), []⟩,
        ⟨(some 26), .ia 1 (.t 24) (.t 25), (some (23, false)), []⟩,
        ⟨(some 27), .load false 1 (.t 26), (some (23, false)), []⟩,
        ⟨(some 28), .bin .plain .gtr (.t 27) (.k (.int .i64 7)), (some (23, false)), []⟩,
        ⟨(some 29), .pick (.t 23) (.k (.bool true)) (.t 28), none, []⟩,
        ⟨(some 30), .mv (.t 29), none, []⟩,
        ⟨(some 31), .mv (.t 3), (some (30, false)), []⟩,
        ⟨(some 32), .bin .plain .gtr (.t 31) (.k (.int .i64 0)), (some (30, false)), []⟩,
        ⟨(some 33), .mv (.t 32), (some (30, false)), []⟩,
        ⟨(some 34), .cn (.t 0), (some (33, true)), []⟩,
        ⟨(some 35), .mv (.t 3), (some (33, true)), []⟩,
        ⟨(some 36), .bin .plain .sub (.t 35) (.k (.int .i64 1)), (some (33, true)), []⟩,
        ⟨(some 37), .ia 1 (.t 34) (.t 36), (some (33, true)), []⟩,
        ⟨(some 38), .load false 1 (.t 37), (some (33, true)), []⟩,
        ⟨(some 39), .cn (.t 0), (some (33, true)), []⟩,
        ⟨(some 40), .mv (.t 3), (some (33, true)), []⟩,
        ⟨(some 41), .ia 1 (.t 39) (.t 40), (some (33, true)), []⟩,
        ⟨(some 42), .load false 1 (.t 41), (some (33, true)), []⟩,
        ⟨(some 43), .bin .plain .geq (.t 38) (.t 42), (some (33, true)), []⟩,
        ⟨(some 44), .pick (.t 33) (.t 43) (.k (.bool false)), (some (30, false)), []⟩,
        ⟨(some 45), .pick (.t 30) (.k (.bool true)) (.t 44), none, []⟩])
      (.cond (.t 45)
       (.seq
        (.reg [] [
          ⟨(some 2), .mv (.k (.bool false)), none, []⟩])
        (.ret i_ref17_May_r))
       .skip)))
    (.reg [] [
      ⟨(some 16), .mv (.t 3), none, []⟩,
      ⟨(some 17), .bin .plain .add (.t 16) (.k (.int .i64 1)), none, []⟩,
      ⟨(some 3), .mv (.t 17), none, []⟩])))

abbrev s_ref17_May_J0 (h : Heap) : St := ⟨[.undef, .undef, .undef, .undef, .undef, .undef, .undef, .undef, .undef, .undef, .undef, .undef, .undef, .undef, .undef, .undef, .undef, .undef, .undef, .undef, .undef, .undef, .undef, .undef, .undef, .undef, .undef, .undef, .undef, .undef, .undef, .undef, .undef, .undef, .undef, .undef, .undef, .undef, .undef, .undef, .undef, .undef, .undef, .undef, .undef, .undef], h⟩
/-- heartwood/heartwoodref17.May -/
def i_ref17_May : Ev.Fn := ⟨1, 46, 0,
  (.seq
   (.reg [] [
     ⟨(some 2), .mv (.k (.bool false)), none, []⟩])
   (.seq
    (.seq
     (.reg [] [
       ⟨(some 4), .cn (.t 0), none, []⟩,
       ⟨(some 5), .len false (.t 4), none, []⟩,
       ⟨(some 6), .bin .plain .lss (.t 5) (.k (.int .i64 1)), none, []⟩,
       ⟨(some 7), .mv (.t 6), none, []⟩,
       ⟨(some 8), .cn (.t 0), (some (7, false)), []⟩,
       ⟨(some 9), .len false (.t 8), (some (7, false)), []⟩,
       ⟨(some 10), .bin .plain .gtr (.t 9) (.k (.int .i64 7)), (some (7, false)), []⟩,
       ⟨(some 11), .pick (.t 7) (.k (.bool true)) (.t 10), none, []⟩])
     (.cond (.t 11)
      (.seq
       (.reg [] [
         ⟨(some 2), .mv (.k (.bool false)), none, []⟩])
       (.ret i_ref17_May_r))
      .skip))
    (.seq
     (.seq
      (.reg [] [
        ⟨(some 3), .mv (.k (.int .i64 0)), none, []⟩])
      (.block 0 i_ref17_May_j0
       (.loop i_ref17_May_k0 i_ref17_May_b0)))
     (.seq
      (.reg [] [
        ⟨(some 2), .mv (.k (.bool true)), none, []⟩])
      (.ret i_ref17_May_r))))),
  [.tmp 2], [], false, []⟩

def i_law17_ConfStep_r : List Bool := [false, false, false, false, true, false, false, false, false, false, false, false, false, false, false, false, false]
/-- heartwood/heartwoodlaw17.ConfStep -/
def i_law17_ConfStep : Ev.Fn := ⟨2, 17, 0,
  (.seq
   (.reg [] [
     ⟨(some 4), .mv (.k (.bool false)), none, []⟩])
   (.seq
    (.reg [] [
      ⟨(some 6), .qcall n_law17_up [] [], none, []⟩,
      ⟨(some 5), .mv (.t 6), none, []⟩])
    (.seq
     (.reg [] [
       ⟨(some 7), .mv (.t 5), none, []⟩,
       ⟨(some 8), .mv (.t 7), none, []⟩,
       ⟨(some 9), .cn (.t 0), (some (8, true)), []⟩,
       ⟨(some 10), .cn (.t 1), (some (8, true)), []⟩,
       ⟨(some 11), .qcall n_conf_Step [(.t 9), (.t 10)] [], (some (8, true)), []⟩,
       ⟨(some 12), .cn (.t 0), (some (8, true)), []⟩,
       ⟨(some 13), .cn (.t 1), (some (8, true)), []⟩,
       ⟨(some 14), .qcall n_ref17_Step [(.t 12), (.t 13)] [], (some (8, true)), []⟩,
       ⟨(some 15), .bin .bool .eql (.t 11) (.t 14), (some (8, true)), []⟩,
       ⟨(some 16), .pick (.t 8) (.t 15) (.k (.bool false)), none, []⟩,
       ⟨(some 4), .mv (.t 16), none, []⟩])
     (.ret i_law17_ConfStep_r)))),
  [.tmp 4], [], false, []⟩

def i_ref17_Step_r : List Bool := [false, false, false, false, true, false, false, false, false, false, false, false, false, false, false, false, false, false, false, false, false, false, false, false, false, false, false, false, false, false]
def i_ref17_Step_j1 : List Bool := [true, true, false, false, false, true, true, false, false, false, false, false, false, false, false, false, false, false, false, false, false, false, false, false, false, false, false, false, false, false]
def i_ref17_Step_k0 : List Bool := [true, true, false, false, false, true, true, false, false, false, false, false, false, false, false, false, false, false, false, false, false, false, false, false, false, false, false, false, false, false]
def i_ref17_Step_j0 : List Bool := [false, false, false, false, false, true, false, false, false, false, false, false, false, false, false, false, false, false, false, false, false, false, false, false, false, false, false, false, false, false]
abbrev s_ref17_Step_R (t4 : AV) (h : Heap) : St := ⟨[.undef, .undef, .undef, .undef, t4, .undef, .undef, .undef, .undef, .undef, .undef, .undef, .undef, .undef, .undef, .undef, .undef, .undef, .undef, .undef, .undef, .undef, .undef, .undef, .undef, .undef, .undef, .undef, .undef, .undef], h⟩
abbrev s_ref17_Step_K0 (t0 t1 t5 t6 : AV) (h : Heap) : St := ⟨[t0, t1, .undef, .undef, .undef, t5, t6, .undef, .undef, .undef, .undef, .undef, .undef, .undef, .undef, .undef, .undef, .undef, .undef, .undef, .undef, .undef, .undef, .undef, .undef, .undef, .undef, .undef, .undef, .undef], h⟩
def i_ref17_Step_b0 : IR :=
  (.seq
   (.seq
    (.reg [] [
      ⟨(some 15), .mv (.t 6), none, []⟩,
      ⟨(some 16), .bin .plain .leq (.t 15) (.k (.int .i64 7)), none, []⟩])
    (.cond (.t 16)
     .skip
     (.exit 0 i_ref17_Step_j0)))
   (.seq
    (.block 1 i_ref17_Step_j1
     (.seq
      (.reg [] [
        ⟨(some 19), .cn (.t 0), none, []⟩,
        ⟨(some 20), .mv (.t 6), none, []⟩,
        ⟨(some 21), .qcall n_ref17_Has [(.t 19), (.t 20)] [], none, []⟩,
        ⟨(some 22), .cn (.t 1), none, []⟩,
        ⟨(some 23), .mv (.t 6), none, []⟩,
        ⟨(some 24), .qcall n_ref17_Has [(.t 22), (.t 23)] [], none, []⟩,
        ⟨(some 25), .bin .bool .neq (.t 21) (.t 24), none, []⟩])
      (.cond (.t 25)
       (.reg [] [
         ⟨(some 26), .mv (.t 5), none, []⟩,
         ⟨(some 27), .bin .plain .add (.t 26) (.k (.int .i64 1)), none, []⟩,
         ⟨(some 5), .mv (.t 27), none, []⟩])
       .skip)))
    (.reg [] [
      ⟨(some 17), .mv (.t 6), none, []⟩,
      ⟨(some 18), .bin .plain .add (.t 17) (.k (.int .i64 1)), none, []⟩,
      ⟨(some 6), .mv (.t 18), none, []⟩])))

abbrev s_ref17_Step_J0 (t5 : AV) (h : Heap) : St := ⟨[.undef, .undef, .undef, .undef, .undef, t5, .undef, .undef, .undef, .undef, .undef, .undef, .undef, .undef, .undef, .undef, .undef, .undef, .undef, .undef, .undef, .undef, .undef, .undef, .undef, .undef, .undef, .undef, .undef, .undef], h⟩
/-- heartwood/heartwoodref17.Step -/
def i_ref17_Step : Ev.Fn := ⟨2, 30, 0,
  (.seq
   (.reg [] [
     ⟨(some 4), .mv (.k (.bool false)), none, []⟩])
   (.seq
    (.seq
     (.reg [] [
       ⟨(some 7), .cn (.t 0), none, []⟩,
       ⟨(some 8), .qcall n_ref17_May [(.t 7)] [], none, []⟩,
       ⟨(some 9), .un .not (.t 8), none, []⟩,
       ⟨(some 10), .mv (.t 9), none, []⟩,
       ⟨(some 11), .cn (.t 1), (some (10, false)), []⟩,
       ⟨(some 12), .qcall n_ref17_May [(.t 11)] [], (some (10, false)), []⟩,
       ⟨(some 13), .un .not (.t 12), (some (10, false)), []⟩,
       ⟨(some 14), .pick (.t 10) (.k (.bool true)) (.t 13), none, []⟩])
     (.cond (.t 14)
      (.seq
       (.reg [] [
         ⟨(some 4), .mv (.k (.bool false)), none, []⟩])
       (.ret i_ref17_Step_r))
      .skip))
    (.seq
     (.reg [] [
       ⟨(some 5), .mv (.k (.int .i64 0)), none, []⟩])
     (.seq
      (.seq
       (.reg [] [
         ⟨(some 6), .mv (.k (.int .i64 1)), none, []⟩])
       (.block 0 i_ref17_Step_j0
        (.loop i_ref17_Step_k0 i_ref17_Step_b0)))
      (.seq
       (.reg [] [
         ⟨(some 28), .mv (.t 5), none, []⟩,
         ⟨(some 29), .bin .plain .eql (.t 28) (.k (.int .i64 1)), none, []⟩,
         ⟨(some 4), .mv (.t 29), none, []⟩])
       (.ret i_ref17_Step_r)))))),
  [.tmp 4], [], false, []⟩

def i_law17_ConfMeet_r : List Bool := [false, false, false, false, false, false, false, false, true, false, false, false, false, false, false, false, false, false, false, false, false, false, false, false, false, false, false, false, false, false, false, false, false, false, false, false, false, false, false, false, false, false, false, false, false, false, false, false, false, false, false, false, false, false, false, false, false, false, false, false, false, false, false, false, false, false, false, false]
def i_law17_ConfMeet_j1 : List Bool := [true, true, true, true, false, false, false, false, false, true, false, true, false, false, false, false, false, false, false, false, false, false, false, false, false, false, false, false, false, false, false, false, false, false, false, false, false, false, false, false, false, false, false, false, false, false, false, false, false, false, false, false, false, false, false, false, false, false, false, false, false, false, false, false, false, false, false, false]
def i_law17_ConfMeet_k0 : List Bool := [true, true, true, true, false, false, false, false, false, true, false, true, false, false, false, false, false, false, false, false, false, false, false, false, false, false, false, false, false, false, false, false, false, false, false, false, false, false, false, false, false, false, false, false, false, false, false, false, false, false, false, false, false, false, false, false, false, false, false, false, false, false, false, false, false, false, false, false]
def i_law17_ConfMeet_j0 : List Bool := [false, false, false, false, false, false, false, false, false, false, false, false, false, false, false, false, false, false, false, false, false, false, false, false, false, false, false, false, false, false, false, false, false, false, false, false, false, false, false, false, false, false, false, false, false, false, false, false, false, false, false, false, false, false, false, false, false, false, false, false, false, false, false, false, false, false, false, false]
abbrev s_law17_ConfMeet_R (t8 : AV) (h : Heap) : St := ⟨[.undef, .undef, .undef, .undef, .undef, .undef, .undef, .undef, t8, .undef, .undef, .undef, .undef, .undef, .undef, .undef, .undef, .undef, .undef, .undef, .undef, .undef, .undef, .undef, .undef, .undef, .undef, .undef, .undef, .undef, .undef, .undef, .undef, .undef, .undef, .undef, .undef, .undef, .undef, .undef, .undef, .undef, .undef, .undef, .undef, .undef, .undef, .undef, .undef, .undef, .undef, .undef, .undef, .undef, .undef, .undef, .undef, .undef, .undef, .undef, .undef, .undef, .undef, .undef, .undef, .undef, .undef, .undef], h⟩
abbrev s_law17_ConfMeet_K0 (t0 t1 t2 t3 t9 t11 : AV) (h : Heap) : St := ⟨[t0, t1, t2, t3, .undef, .undef, .undef, .undef, .undef, t9, .undef, t11, .undef, .undef, .undef, .undef, .undef, .undef, .undef, .undef, .undef, .undef, .undef, .undef, .undef, .undef, .undef, .undef, .undef, .undef, .undef, .undef, .undef, .undef, .undef, .undef, .undef, .undef, .undef, .undef, .undef, .undef, .undef, .undef, .undef, .undef, .undef, .undef, .undef, .undef, .undef, .undef, .undef, .undef, .undef, .undef, .undef, .undef, .undef, .undef, .undef, .undef, .undef, .undef, .undef, .undef, .undef, .undef], h⟩
def i_law17_ConfMeet_b0 : IR :=
  (.seq
   (.seq
    (.reg [] [
      ⟨(some 45), .mv (.t 11), none, []⟩,
      ⟨(some 46), .bin .plain .leq (.t 45) (.k (.int .i64 7)), none, []⟩])
    (.cond (.t 46)
     .skip
     (.exit 0 i_law17_ConfMeet_j0)))
   (.seq
    (.block 1 i_law17_ConfMeet_j1
     (.seq
      (.reg [] [
        ⟨(some 49), .cn (.t 2), none, []⟩,
        ⟨(some 50), .mv (.t 11), none, []⟩,
        ⟨(some 51), .qcall n_conf_Has [(.t 49), (.t 50)] [], none, []⟩,
        ⟨(some 52), .mv (.t 51), none, []⟩,
        ⟨(some 53), .cn (.t 3), (some (52, true)), []⟩,
        ⟨(some 54), .mv (.t 11), (some (52, true)), []⟩,
        ⟨(some 55), .qcall n_conf_Has [(.t 53), (.t 54)] [], (some (52, true)), []⟩,
        ⟨(some 56), .pick (.t 52) (.t 55) (.k (.bool false)), none, []⟩,
        ⟨(some 57), .mv (.t 56), none, []⟩,
        ⟨(some 58), .cn (.t 0), (some (57, true)), []⟩,
        ⟨(some 59), .mv (.t 11), (some (57, true)), []⟩,
        ⟨(some 60), .qcall n_conf_Has [(.t 58), (.t 59)] [], (some (57, true)), []⟩,
        ⟨(some 61), .pick (.t 57) (.t 60) (.k (.bool false)), none, []⟩,
        ⟨(some 62), .mv (.t 61), none, []⟩,
        ⟨(some 63), .cn (.t 1), (some (62, true)), []⟩,
        ⟨(some 64), .mv (.t 11), (some (62, true)), []⟩,
        ⟨(some 65), .qcall n_conf_Has [(.t 63), (.t 64)] [], (some (62, true)), []⟩,
        ⟨(some 66), .pick (.t 62) (.t 65) (.k (.bool false)), none, []⟩])
      (.cond (.t 66)
       (.seq
        (.reg [] [
          ⟨(some 67), .mv (.t 9), none, []⟩,
          ⟨(some 8), .mv (.t 67), none, []⟩])
        (.ret i_law17_ConfMeet_r))
       .skip)))
    (.reg [] [
      ⟨(some 47), .mv (.t 11), none, []⟩,
      ⟨(some 48), .bin .plain .add (.t 47) (.k (.int .i64 1)), none, []⟩,
      ⟨(some 11), .mv (.t 48), none, []⟩])))

abbrev s_law17_ConfMeet_J0 (h : Heap) : St := ⟨[.undef, .undef, .undef, .undef, .undef, .undef, .undef, .undef, .undef, .undef, .undef, .undef, .undef, .undef, .undef, .undef, .undef, .undef, .undef, .undef, .undef, .undef, .undef, .undef, .undef, .undef, .undef, .undef, .undef, .undef, .undef, .undef, .undef, .undef, .undef, .undef, .undef, .undef, .undef, .undef, .undef, .undef, .undef, .undef, .undef, .undef, .undef, .undef, .undef, .undef, .undef, .undef, .undef, .undef, .undef, .undef, .undef, .undef, .undef, .undef, .undef, .undef, .undef, .undef, .undef, .undef, .undef, .undef], h⟩
/-- heartwood/heartwoodlaw17.ConfMeet -/
def i_law17_ConfMeet : Ev.Fn := ⟨4, 68, 0,
  (.seq
   (.reg [] [
     ⟨(some 8), .mv (.k (.bool false)), none, []⟩])
   (.seq
    (.reg [] [
      ⟨(some 12), .qcall n_law17_up [] [], none, []⟩,
      ⟨(some 9), .mv (.t 12), none, []⟩])
    (.seq
     (.seq
      (.reg [] [
        ⟨(some 13), .cn (.t 2), none, []⟩,
        ⟨(some 14), .len false (.t 13), none, []⟩,
        ⟨(some 15), .bin .plain .gtr (.t 14) (.k (.int .i64 1000)), none, []⟩,
        ⟨(some 16), .mv (.t 15), none, []⟩,
        ⟨(some 17), .cn (.t 3), (some (16, false)), []⟩,
        ⟨(some 18), .len false (.t 17), (some (16, false)), []⟩,
        ⟨(some 19), .bin .plain .gtr (.t 18) (.k (.int .i64 1000)), (some (16, false)), []⟩,
        ⟨(some 20), .pick (.t 16) (.k (.bool true)) (.t 19), none, []⟩])
      (.cond (.t 20)
       (.seq
        (.reg [] [
          ⟨(some 21), .mv (.t 9), none, []⟩,
          ⟨(some 8), .mv (.t 21), none, []⟩])
        (.ret i_law17_ConfMeet_r))
       .skip))
     (.seq
      (.reg [] [
        ⟨(some 22), .cn (.t 0), none, []⟩,
        ⟨(some 23), .cn (.t 1), none, []⟩,
        ⟨(some 24), .qcall n_conf_Step [(.t 22), (.t 23)] [], none, []⟩,
        ⟨(some 25), .mv (.t 24), none, []⟩,
        ⟨(some 26), .cn (.t 0), (some (25, false)), []⟩,
        ⟨(some 27), .cn (.t 1), (some (25, false)), []⟩,
        ⟨(some 28), .qcall n_ref17_Same [(.t 26), (.t 27)] [], (some (25, false)), []⟩,
        ⟨(some 29), .pick (.t 25) (.k (.bool true)) (.t 28), none, []⟩,
        ⟨(some 10), .mv (.t 29), none, []⟩])
      (.seq
       (.seq
        (.reg [] [
          ⟨(some 30), .mv (.t 10), none, []⟩,
          ⟨(some 31), .un .not (.t 30), none, []⟩,
          ⟨(some 32), .mv (.t 31), none, []⟩,
          ⟨(some 33), .cn (.t 0), (some (32, false)), []⟩,
          ⟨(some 34), .cn (.t 2), (some (32, false)), []⟩,
          ⟨(some 35), .qcall n_conf_Most [(.t 33), (.t 34)] [], (some (32, false)), []⟩,
          ⟨(some 36), .un .not (.t 35), (some (32, false)), []⟩,
          ⟨(some 37), .pick (.t 32) (.k (.bool true)) (.t 36), none, []⟩,
          ⟨(some 38), .mv (.t 37), none, []⟩,
          ⟨(some 39), .cn (.t 1), (some (38, false)), []⟩,
          ⟨(some 40), .cn (.t 3), (some (38, false)), []⟩,
          ⟨(some 41), .qcall n_conf_Most [(.t 39), (.t 40)] [], (some (38, false)), []⟩,
          ⟨(some 42), .un .not (.t 41), (some (38, false)), []⟩,
          ⟨(some 43), .pick (.t 38) (.k (.bool true)) (.t 42), none, []⟩])
        (.cond (.t 43)
         (.seq
          (.reg [] [
            ⟨(some 44), .mv (.t 9), none, []⟩,
            ⟨(some 8), .mv (.t 44), none, []⟩])
          (.ret i_law17_ConfMeet_r))
         .skip))
       (.seq
        (.seq
         (.reg [] [
           ⟨(some 11), .mv (.k (.int .i64 1)), none, []⟩])
         (.block 0 i_law17_ConfMeet_j0
          (.loop i_law17_ConfMeet_k0 i_law17_ConfMeet_b0)))
        (.seq
         (.reg [] [
           ⟨(some 8), .mv (.k (.bool false)), none, []⟩])
         (.ret i_law17_ConfMeet_r)))))))),
  [.tmp 8], [], false, []⟩

def i_ref17_Same_r : List Bool := [false, false, false, false, true, false, false, false, false, false, false, false, false, false, false, false, false, false, false, false, false, false, false, false, false, false]
def i_ref17_Same_j1 : List Bool := [true, true, false, false, false, true, false, false, false, false, false, false, false, false, false, false, false, false, false, false, false, false, false, false, false, false]
def i_ref17_Same_k0 : List Bool := [true, true, false, false, false, true, false, false, false, false, false, false, false, false, false, false, false, false, false, false, false, false, false, false, false, false]
def i_ref17_Same_j0 : List Bool := [false, false, false, false, false, false, false, false, false, false, false, false, false, false, false, false, false, false, false, false, false, false, false, false, false, false]
abbrev s_ref17_Same_R (t4 : AV) (h : Heap) : St := ⟨[.undef, .undef, .undef, .undef, t4, .undef, .undef, .undef, .undef, .undef, .undef, .undef, .undef, .undef, .undef, .undef, .undef, .undef, .undef, .undef, .undef, .undef, .undef, .undef, .undef, .undef], h⟩
abbrev s_ref17_Same_K0 (t0 t1 t5 : AV) (h : Heap) : St := ⟨[t0, t1, .undef, .undef, .undef, t5, .undef, .undef, .undef, .undef, .undef, .undef, .undef, .undef, .undef, .undef, .undef, .undef, .undef, .undef, .undef, .undef, .undef, .undef, .undef, .undef], h⟩
def i_ref17_Same_b0 : IR :=
  (.seq
   (.seq
    (.reg [] [
      ⟨(some 11), .mv (.t 5), none, []⟩,
      ⟨(some 12), .cn (.t 0), none, []⟩,
      ⟨(some 13), .len false (.t 12), none, []⟩,
      ⟨(some 14), .bin .plain .lss (.t 11) (.t 13), none, []⟩])
    (.cond (.t 14)
     .skip
     (.exit 0 i_ref17_Same_j0)))
   (.seq
    (.block 1 i_ref17_Same_j1
     (.seq
      (.reg [] [
        ⟨(some 17), .cn (.t 0), none, []⟩,
        ⟨(some 18), .mv (.t 5), none, []⟩,
        ⟨(some 19), .ia 1 (.t 17) (.t 18), none, []⟩,
        ⟨(some 20), .load false 1 (.t 19), none, []⟩,
        ⟨(some 21), .cn (.t 1), none, []⟩,
        ⟨(some 22), .mv (.t 5), none, []⟩,
        ⟨(some 23), .ia 1 (.t 21) (.t 22), none, []⟩,
        ⟨(some 24), .load false 1 (.t 23), none, []⟩,
        ⟨(some 25), .bin .plain .neq (.t 20) (.t 24), none, []⟩])
      (.cond (.t 25)
       (.seq
        (.reg [] [
          ⟨(some 4), .mv (.k (.bool false)), none, []⟩])
        (.ret i_ref17_Same_r))
       .skip)))
    (.reg [] [
      ⟨(some 15), .mv (.t 5), none, []⟩,
      ⟨(some 16), .bin .plain .add (.t 15) (.k (.int .i64 1)), none, []⟩,
      ⟨(some 5), .mv (.t 16), none, []⟩])))

abbrev s_ref17_Same_J0 (h : Heap) : St := ⟨[.undef, .undef, .undef, .undef, .undef, .undef, .undef, .undef, .undef, .undef, .undef, .undef, .undef, .undef, .undef, .undef, .undef, .undef, .undef, .undef, .undef, .undef, .undef, .undef, .undef, .undef], h⟩
/-- heartwood/heartwoodref17.Same -/
def i_ref17_Same : Ev.Fn := ⟨2, 26, 0,
  (.seq
   (.reg [] [
     ⟨(some 4), .mv (.k (.bool false)), none, []⟩])
   (.seq
    (.seq
     (.reg [] [
       ⟨(some 6), .cn (.t 0), none, []⟩,
       ⟨(some 7), .len false (.t 6), none, []⟩,
       ⟨(some 8), .cn (.t 1), none, []⟩,
       ⟨(some 9), .len false (.t 8), none, []⟩,
       ⟨(some 10), .bin .plain .neq (.t 7) (.t 9), none, []⟩])
     (.cond (.t 10)
      (.seq
       (.reg [] [
         ⟨(some 4), .mv (.k (.bool false)), none, []⟩])
       (.ret i_ref17_Same_r))
      .skip))
    (.seq
     (.seq
      (.reg [] [
        ⟨(some 5), .mv (.k (.int .i64 0)), none, []⟩])
      (.block 0 i_ref17_Same_j0
       (.loop i_ref17_Same_k0 i_ref17_Same_b0)))
     (.seq
      (.reg [] [
        ⟨(some 4), .mv (.k (.bool true)), none, []⟩])
      (.ret i_ref17_Same_r))))),
  [.tmp 4], [], false, []⟩

def i_law17_ConfBytes_r : List Bool := [false, false, false, false, true, false, false, false, false, false, false, false, false, false, false, false, false, false, false, false, false, false, false, false, false, false, false, false, false, false, false, false, false, false, false, false, false, false, false, false, false, false, false, false, false, false, false, false, false, false, false, false, false, false, false, false, false, false, false, false, false, false, false, false, false, false, false, false, false, false, false, false, false, false, false, false, false, false, false, false, false, false, false, false, false, false, false, false, false, false, false, false, false, false, false, false, false, false, false]
/-- heartwood/heartwoodlaw17.ConfBytes -/
def i_law17_ConfBytes : Ev.Fn := ⟨2, 99, 0,
  (.seq
   (.reg [] [
     ⟨(some 4), .mv (.k (.bool false)), none, []⟩])
   (.seq
    (.reg [] [
      ⟨(some 15), .qcall n_law17_up [] [], none, []⟩,
      ⟨(some 5), .mv (.t 15), none, []⟩])
    (.seq
     (.reg [] [
       ⟨(some 17), .cn (.t 0), none, []⟩,
       ⟨(some 18), .qcall n_conf_Bytes [(.t 17)] [], none, []⟩,
       ⟨(some 16), .mv (.t 18), none, []⟩,
       ⟨(some 19), .ext 0 (.t 16), none, []⟩,
       ⟨(some 20), .ext 1 (.t 16), none, []⟩,
       ⟨(some 6), .cn (.t 19), none, []⟩,
       ⟨(some 7), .mv (.t 20), none, []⟩])
     (.seq
      (.reg [] [
        ⟨(some 22), .cn (.t 1), none, []⟩,
        ⟨(some 23), .qcall n_conf_Of [(.t 22)] [], none, []⟩,
        ⟨(some 21), .mv (.t 23), none, []⟩,
        ⟨(some 24), .ext 0 (.t 21), none, []⟩,
        ⟨(some 25), .ext 1 (.t 21), none, []⟩,
        ⟨(some 8), .cn (.t 24), none, []⟩,
        ⟨(some 9), .mv (.t 25), none, []⟩])
      (.seq
       (.reg [] [
         ⟨(some 26), .cn (.t 0), none, []⟩,
         ⟨(some 27), .qcall n_ref17_May [(.t 26)] [], none, []⟩,
         ⟨(some 10), .mv (.t 27), none, []⟩])
       (.seq
        (.reg [] [
          ⟨(some 29), .cn (.t 1), none, []⟩,
          ⟨(some 30), .qcall n_ref17_Of [(.t 29)] [], none, []⟩,
          ⟨(some 28), .mv (.t 30), none, []⟩,
          ⟨(some 31), .ext 0 (.t 28), none, []⟩,
          ⟨(some 32), .ext 1 (.t 28), none, []⟩,
          ⟨(some 11), .cn (.t 31), none, []⟩,
          ⟨(some 12), .mv (.t 32), none, []⟩])
        (.seq
         (.seq
          (.reg [] [
            ⟨(some 33), .cn (.t 0), none, []⟩,
            ⟨(some 34), .qcall n_conf_May [(.t 33)] [], none, []⟩,
            ⟨(some 35), .mv (.t 10), none, []⟩,
            ⟨(some 36), .bin .bool .neq (.t 34) (.t 35), none, []⟩,
            ⟨(some 37), .mv (.t 36), none, []⟩,
            ⟨(some 38), .mv (.t 10), (some (37, false)), []⟩,
            ⟨(some 39), .mv (.t 7), (some (37, false)), []⟩,
            ⟨(some 40), .bin (.iface ty_api_Code true) .eql (.t 39) (.k .nilIface), (some (37, false)), []⟩,
            ⟨(some 41), .bin .bool .neq (.t 38) (.t 40), (some (37, false)), []⟩,
            ⟨(some 42), .pick (.t 37) (.k (.bool true)) (.t 41), none, []⟩,
            ⟨(some 43), .mv (.t 42), none, []⟩,
            ⟨(some 44), .mv (.t 12), (some (43, false)), []⟩,
            ⟨(some 45), .mv (.t 9), (some (43, false)), []⟩,
            ⟨(some 46), .bin (.iface ty_api_Code true) .eql (.t 45) (.k .nilIface), (some (43, false)), []⟩,
            ⟨(some 47), .bin .bool .neq (.t 44) (.t 46), (some (43, false)), []⟩,
            ⟨(some 48), .pick (.t 43) (.k (.bool true)) (.t 47), none, []⟩])
          (.cond (.t 48)
           (.seq
            (.reg [] [
              ⟨(some 4), .mv (.k (.bool false)), none, []⟩])
            (.ret i_law17_ConfBytes_r))
           .skip))
         (.seq
          (.reg [] [
            ⟨(some 49), .mv (.t 10), none, []⟩,
            ⟨(some 50), .mv (.t 49), none, []⟩,
            ⟨(some 51), .cn (.t 6), (some (50, true)), []⟩,
            ⟨(some 52), .b2s (.t 51), (some (50, true)), []⟩,
            ⟨(some 53), .cn (.t 0), (some (50, true)), []⟩,
            ⟨(some 54), .qcall n_ref17_Bytes [(.t 53)] [], (some (50, true)), []⟩,
            ⟨(some 55), .b2s (.t 54), (some (50, true)), []⟩,
            ⟨(some 56), .bin .plain .eql (.t 52) (.t 55), (some (50, true)), []⟩,
            ⟨(some 57), .pick (.t 50) (.t 56) (.k (.bool false)), none, []⟩,
            ⟨(some 58), .mv (.t 57), none, []⟩,
            ⟨(some 59), .mv (.t 10), (some (58, false)), []⟩,
            ⟨(some 60), .un .not (.t 59), (some (58, false)), []⟩,
            ⟨(some 61), .mv (.t 60), (some (58, false)), []⟩,
            ⟨(some 62), .mv (.t 7), (some (61, true)), []⟩,
            ⟨(some 63), .mki ty_api_Code (.k (.int .i64 1)), (some (61, true)), []⟩,
            ⟨(some 64), .bin (.iface ty_api_Code false) .eql (.t 62) (.t 63), (some (61, true)), []⟩,
            ⟨(some 65), .pick (.t 61) (.t 64) (.k (.bool false)), (some (58, false)), []⟩,
            ⟨(some 66), .mv (.t 65), (some (58, false)), []⟩,
            ⟨(some 67), .cn (.t 6), (some (66, true)), []⟩,
            ⟨(some 68), .len false (.t 67), (some (66, true)), []⟩,
            ⟨(some 69), .bin .plain .eql (.t 68) (.k (.int .i64 0)), (some (66, true)), []⟩,
            ⟨(some 70), .pick (.t 66) (.t 69) (.k (.bool false)), (some (58, false)), []⟩,
            ⟨(some 71), .pick (.t 58) (.k (.bool true)) (.t 70), none, []⟩,
            ⟨(some 13), .mv (.t 71), none, []⟩])
          (.seq
           (.reg [] [
             ⟨(some 72), .mv (.t 12), none, []⟩,
             ⟨(some 73), .mv (.t 72), none, []⟩,
             ⟨(some 74), .cn (.t 8), (some (73, true)), []⟩,
             ⟨(some 75), .cn (.t 11), (some (73, true)), []⟩,
             ⟨(some 76), .qcall n_ref17_Same [(.t 74), (.t 75)] [], (some (73, true)), []⟩,
             ⟨(some 77), .pick (.t 73) (.t 76) (.k (.bool false)), none, []⟩,
             ⟨(some 78), .mv (.t 77), none, []⟩,
             ⟨(some 79), .mv (.t 12), (some (78, false)), []⟩,
             ⟨(some 80), .un .not (.t 79), (some (78, false)), []⟩,
             ⟨(some 81), .mv (.t 80), (some (78, false)), []⟩,
             ⟨(some 82), .mv (.t 9), (some (81, true)), []⟩,
             ⟨(some 83), .mki ty_api_Code (.k (.int .i64 3)), (some (81, true)), []⟩,
             ⟨(some 84), .bin (.iface ty_api_Code false) .eql (.t 82) (.t 83), (some (81, true)), []⟩,
             ⟨(some 85), .pick (.t 81) (.t 84) (.k (.bool false)), (some (78, false)), []⟩,
             ⟨(some 86), .mv (.t 85), (some (78, false)), []⟩,
             ⟨(some 87), .cn (.t 8), (some (86, true)), []⟩,
             ⟨(some 88), .len false (.t 87), (some (86, true)), []⟩,
             ⟨(some 89), .bin .plain .eql (.t 88) (.k (.int .i64 0)), (some (86, true)), []⟩,
             ⟨(some 90), .pick (.t 86) (.t 89) (.k (.bool false)), (some (78, false)), []⟩,
             ⟨(some 91), .pick (.t 78) (.k (.bool true)) (.t 90), none, []⟩,
             ⟨(some 14), .mv (.t 91), none, []⟩])
           (.seq
            (.reg [] [
              ⟨(some 92), .mv (.t 5), none, []⟩,
              ⟨(some 93), .mv (.t 92), none, []⟩,
              ⟨(some 94), .mv (.t 13), (some (93, true)), []⟩,
              ⟨(some 95), .pick (.t 93) (.t 94) (.k (.bool false)), none, []⟩,
              ⟨(some 96), .mv (.t 95), none, []⟩,
              ⟨(some 97), .mv (.t 14), (some (96, true)), []⟩,
              ⟨(some 98), .pick (.t 96) (.t 97) (.k (.bool false)), none, []⟩,
              ⟨(some 4), .mv (.t 98), none, []⟩])
            (.ret i_law17_ConfBytes_r))))))))))),
  [.tmp 4], [], false, []⟩

def i_conf_Bytes_r : List Bool := [false, false, true, true, false, false, false, false, false, false, false, false, false, false, false, false, false, false, false, false, false, false, false, false]
def i_conf_Bytes_j1 : List Bool := [false, false, false, false, true, false, false, false, false, false, false, true, true, true, false, false, false, false, false, false, false, false, false, false]
def i_conf_Bytes_k0 : List Bool := [false, false, false, false, true, false, false, false, false, false, false, true, true, true, false, false, false, false, false, false, false, false, false, false]
def i_conf_Bytes_j0 : List Bool := [false, false, false, false, true, false, false, false, false, false, false, false, false, false, false, false, false, false, false, false, false, false, false, false]
abbrev s_conf_Bytes_R (t2 t3 : AV) (h : Heap) : St := ⟨[.undef, .undef, t2, t3, .undef, .undef, .undef, .undef, .undef, .undef, .undef, .undef, .undef, .undef, .undef, .undef, .undef, .undef, .undef, .undef, .undef, .undef, .undef, .undef], h⟩
abbrev s_conf_Bytes_K0 (t4 t11 t12 t13 : AV) (h : Heap) : St := ⟨[.undef, .undef, .undef, .undef, t4, .undef, .undef, .undef, .undef, .undef, .undef, t11, t12, t13, .undef, .undef, .undef, .undef, .undef, .undef, .undef, .undef, .undef, .undef], h⟩
def i_conf_Bytes_b0 : IR :=
  (.seq
   (.reg [] [
     ⟨(some 14), .bin .plain .lss (.t 13) (.t 12), none, []⟩])
   (.seq
    (.cond (.t 14)
     .skip
     (.exit 0 i_conf_Bytes_j0))
    (.seq
     (.block 1 i_conf_Bytes_j1
      (.seq
       (.reg [] [
         ⟨(some 15), .ia 1 (.t 11) (.t 13), none, []⟩,
         ⟨(some 16), .load false 1 (.t 15), none, []⟩,
         ⟨(some 6), .mv (.t 16), none, []⟩])
       (.reg [] [
         ⟨(some 17), .mv (.t 4), none, []⟩,
         ⟨(some 18), .mv (.t 6), none, []⟩,
         ⟨(some 19), .conv .u8 (.t 18), none, []⟩,
         ⟨(some 20), .litd 1 1 [(.int .u8 0)] [(0, (.t 19))], none, []⟩,
         ⟨(some 21), .app 0 ty_uint8 1 1 (.t 17) (.t 20), none, []⟩,
         ⟨(some 4), .mv (.t 21), none, []⟩])))
     (.reg [] [
       ⟨(some 22), .bin .plain .add (.t 13) (.k (.int .i64 1)), none, []⟩,
       ⟨(some 13), .mv (.t 22), none, []⟩]))))

abbrev s_conf_Bytes_J0 (t4 : AV) (h : Heap) : St := ⟨[.undef, .undef, .undef, .undef, t4, .undef, .undef, .undef, .undef, .undef, .undef, .undef, .undef, .undef, .undef, .undef, .undef, .undef, .undef, .undef, .undef, .undef, .undef, .undef], h⟩
/-- heartwood/conf.Bytes -/
def i_conf_Bytes : Ev.Fn := ⟨1, 24, 1,
  (.seq
   (.reg [] [
     ⟨(some 2), .cn (.k (.slice none 0 0)), none, []⟩,
     ⟨(some 3), .mv (.k .nilIface), none, []⟩])
   (.seq
    (.seq
     (.reg [] [
       ⟨(some 7), .cn (.t 0), none, []⟩,
       ⟨(some 8), .qcall n_conf_May [(.t 7)] [], none, []⟩,
       ⟨(some 9), .un .not (.t 8), none, []⟩])
     (.cond (.t 9)
      (.seq
       (.reg [] [
         ⟨(some 10), .mki ty_api_Code (.k (.int .i64 1)), none, []⟩,
         ⟨(some 2), .cn (.k (.slice none 0 0)), none, []⟩,
         ⟨(some 3), .mv (.t 10), none, []⟩])
       (.ret i_conf_Bytes_r))
      .skip))
    (.seq
     (.reg [] [
       ⟨(some 4), .mv (.k (.slice none 0 0)), none, []⟩])
     (.seq
      (.seq
       (.reg [] [
         ⟨(some 11), .cn (.t 0), none, []⟩,
         ⟨(some 12), .len false (.t 11), none, []⟩,
         ⟨(some 13), .mv (.k (.int .i64 0)), none, []⟩])
       (.block 0 i_conf_Bytes_j0
        (.loop i_conf_Bytes_k0 i_conf_Bytes_b0)))
      (.seq
       (.reg [] [
         ⟨(some 23), .cn (.t 4), none, [4]⟩,
         ⟨(some 2), .cn (.t 23), none, [23]⟩,
         ⟨(some 3), .mv (.k .nilIface), none, []⟩])
       (.ret i_conf_Bytes_r)))))),
  [.tmp 2, .tmp 3], [], false, []⟩

def i_conf_Of_r : List Bool := [false, false, true, true, false, false, false, false, false, false, false, false, false, false, false, false, false, false, false, false, false, false, false, false]
def i_conf_Of_j1 : List Bool := [false, false, false, false, true, false, false, true, true, true, false, false, false, false, false, false, false, false, false, false, false, false, false, false]
def i_conf_Of_k0 : List Bool := [false, false, false, false, true, false, false, true, true, true, false, false, false, false, false, false, false, false, false, false, false, false, false, false]
def i_conf_Of_j0 : List Bool := [false, false, false, false, true, false, false, false, false, false, false, false, false, false, false, false, false, false, false, false, false, false, false, false]
abbrev s_conf_Of_R (t2 t3 : AV) (h : Heap) : St := ⟨[.undef, .undef, t2, t3, .undef, .undef, .undef, .undef, .undef, .undef, .undef, .undef, .undef, .undef, .undef, .undef, .undef, .undef, .undef, .undef, .undef, .undef, .undef, .undef], h⟩
abbrev s_conf_Of_K0 (t4 t7 t8 t9 : AV) (h : Heap) : St := ⟨[.undef, .undef, .undef, .undef, t4, .undef, .undef, t7, t8, t9, .undef, .undef, .undef, .undef, .undef, .undef, .undef, .undef, .undef, .undef, .undef, .undef, .undef, .undef], h⟩
def i_conf_Of_b0 : IR :=
  (.seq
   (.reg [] [
     ⟨(some 10), .bin .plain .lss (.t 9) (.t 8), none, []⟩])
   (.seq
    (.cond (.t 10)
     .skip
     (.exit 0 i_conf_Of_j0))
    (.seq
     (.block 1 i_conf_Of_j1
      (.seq
       (.reg [] [
         ⟨(some 11), .ia 1 (.t 7) (.t 9), none, []⟩,
         ⟨(some 12), .load false 1 (.t 11), none, []⟩,
         ⟨(some 6), .mv (.t 12), none, []⟩])
       (.reg [] [
         ⟨(some 13), .mv (.t 4), none, []⟩,
         ⟨(some 14), .mv (.t 6), none, []⟩,
         ⟨(some 15), .conv .i64 (.t 14), none, []⟩,
         ⟨(some 16), .litd 1 1 [(.int .i64 0)] [(0, (.t 15))], none, []⟩,
         ⟨(some 17), .app 0 ty_int 1 8 (.t 13) (.t 16), none, []⟩,
         ⟨(some 4), .mv (.t 17), none, []⟩])))
     (.reg [] [
       ⟨(some 18), .bin .plain .add (.t 9) (.k (.int .i64 1)), none, []⟩,
       ⟨(some 9), .mv (.t 18), none, []⟩]))))

abbrev s_conf_Of_J0 (t4 : AV) (h : Heap) : St := ⟨[.undef, .undef, .undef, .undef, t4, .undef, .undef, .undef, .undef, .undef, .undef, .undef, .undef, .undef, .undef, .undef, .undef, .undef, .undef, .undef, .undef, .undef, .undef, .undef], h⟩
/-- heartwood/conf.Of -/
def i_conf_Of : Ev.Fn := ⟨1, 24, 1,
  (.seq
   (.reg [] [
     ⟨(some 2), .cn (.k (.slice none 0 0)), none, []⟩,
     ⟨(some 3), .mv (.k .nilIface), none, []⟩])
   (.seq
    (.reg [] [
      ⟨(some 4), .mv (.k (.slice none 0 0)), none, []⟩])
    (.seq
     (.seq
      (.reg [] [
        ⟨(some 7), .cn (.t 0), none, []⟩,
        ⟨(some 8), .len false (.t 7), none, []⟩,
        ⟨(some 9), .mv (.k (.int .i64 0)), none, []⟩])
      (.block 0 i_conf_Of_j0
       (.loop i_conf_Of_k0 i_conf_Of_b0)))
     (.seq
      (.seq
       (.reg [] [
         ⟨(some 19), .cn (.t 4), none, []⟩,
         ⟨(some 20), .qcall n_conf_May [(.t 19)] [], none, [19]⟩,
         ⟨(some 21), .un .not (.t 20), none, []⟩])
       (.cond (.t 21)
        (.seq
         (.reg [] [
           ⟨(some 22), .mki ty_api_Code (.k (.int .i64 3)), none, []⟩,
           ⟨(some 2), .cn (.k (.slice none 0 0)), none, []⟩,
           ⟨(some 3), .mv (.t 22), none, []⟩])
         (.ret i_conf_Of_r))
        .skip))
      (.seq
       (.reg [] [
         ⟨(some 23), .cn (.t 4), none, [4]⟩,
         ⟨(some 2), .cn (.t 23), none, [23]⟩,
         ⟨(some 3), .mv (.k .nilIface), none, []⟩])
       (.ret i_conf_Of_r)))))),
  [.tmp 2, .tmp 3], [], false, []⟩

def i_ref17_Of_r : List Bool := [false, false, true, true, false, false, false, false, false, false, false, false, false, false, false, false, false, false, false, false, false, false, false, false, false, false, false, false, false]
def i_ref17_Of_j1 : List Bool := [true, false, false, false, true, true, false, false, false, false, false, false, false, false, false, false, false, false, false, false, false, false, false, false, false, false, false, false, false]
def i_ref17_Of_k0 : List Bool := [true, false, false, false, true, true, false, false, false, false, false, false, false, false, false, false, false, false, false, false, false, false, false, false, false, false, false, false, false]
def i_ref17_Of_j0 : List Bool := [false, false, false, false, true, false, false, false, false, false, false, false, false, false, false, false, false, false, false, false, false, false, false, false, false, false, false, false, false]
abbrev s_ref17_Of_R (t2 t3 : AV) (h : Heap) : St := ⟨[.undef, .undef, t2, t3, .undef, .undef, .undef, .undef, .undef, .undef, .undef, .undef, .undef, .undef, .undef, .undef, .undef, .undef, .undef, .undef, .undef, .undef, .undef, .undef, .undef, .undef, .undef, .undef, .undef], h⟩
abbrev s_ref17_Of_K0 (t0 t4 t5 : AV) (h : Heap) : St := ⟨[t0, .undef, .undef, .undef, t4, t5, .undef, .undef, .undef, .undef, .undef, .undef, .undef, .undef, .undef, .undef, .undef, .undef, .undef, .undef, .undef, .undef, .undef, .undef, .undef, .undef, .undef, .undef, .undef], h⟩
def i_ref17_Of_b0 : IR :=
  (.seq
   (.seq
    (.reg [] [
      ⟨(some 10), .mv (.t 5), none, []⟩,
      ⟨(some 11), .cn (.t 0), none, []⟩,
      ⟨(some 12), .len false (.t 11), none, []⟩,
      ⟨(some 13), .bin .plain .lss (.t 10) (.t 12), none, []⟩])
    (.cond (.t 13)
     .skip
     (.exit 0 i_ref17_Of_j0)))
   (.seq
    (.block 1 i_ref17_Of_j1
     (.reg [] [
       ⟨(some 16), .mv (.t 4), none, []⟩,
       ⟨(some 17), .cn (.t 0), none, []⟩,
       ⟨(some 18), .mv (.t 5), none, []⟩,
       ⟨(some 19), .ia 1 (.t 17) (.t 18), none, []⟩,
       ⟨(some 20), .load false 1 (.t 19), none, []⟩,
       ⟨(some 21), .conv .i64 (.t 20), none, []⟩,
       ⟨(some 22), .litd 1 1 [(.int .i64 0)] [(0, (.t 21))], none, []⟩,
       ⟨(some 23), .app 0 ty_int 1 8 (.t 16) (.t 22), none, []⟩,
       ⟨(some 4), .mv (.t 23), none, []⟩]))
    (.reg [] [
      ⟨(some 14), .mv (.t 5), none, []⟩,
      ⟨(some 15), .bin .plain .add (.t 14) (.k (.int .i64 1)), none, []⟩,
      ⟨(some 5), .mv (.t 15), none, []⟩])))

abbrev s_ref17_Of_J0 (t4 : AV) (h : Heap) : St := ⟨[.undef, .undef, .undef, .undef, t4, .undef, .undef, .undef, .undef, .undef, .undef, .undef, .undef, .undef, .undef, .undef, .undef, .undef, .undef, .undef, .undef, .undef, .undef, .undef, .undef, .undef, .undef, .undef, .undef], h⟩
/-- heartwood/heartwoodref17.Of -/
def i_ref17_Of : Ev.Fn := ⟨1, 29, 1,
  (.seq
   (.reg [] [
     ⟨(some 2), .cn (.k (.slice none 0 0)), none, []⟩,
     ⟨(some 3), .mv (.k (.bool false)), none, []⟩])
   (.seq
    (.seq
     (.reg [] [
       ⟨(some 7), .cn (.t 0), none, []⟩,
       ⟨(some 8), .len false (.t 7), none, []⟩,
       ⟨(some 9), .bin .plain .gtr (.t 8) (.k (.int .i64 7)), none, []⟩])
     (.cond (.t 9)
      (.seq
       (.reg [] [
         ⟨(some 2), .cn (.k (.slice none 0 0)), none, []⟩,
         ⟨(some 3), .mv (.k (.bool false)), none, []⟩])
       (.ret i_ref17_Of_r))
      .skip))
    (.seq
     (.reg [] [
       ⟨(some 4), .mv (.k (.slice none 0 0)), none, []⟩])
     (.seq
      (.seq
       (.reg [] [
         ⟨(some 5), .mv (.k (.int .i64 0)), none, []⟩])
       (.block 0 i_ref17_Of_j0
        (.loop i_ref17_Of_k0 i_ref17_Of_b0)))
      (.seq
       (.reg [] [
         ⟨(some 24), .cn (.t 4), none, []⟩,
         ⟨(some 25), .qcall n_ref17_May [(.t 24)] [], none, [24]⟩,
         ⟨(some 6), .mv (.t 25), none, []⟩])
       (.seq
        (.seq
         (.reg [] [
           ⟨(some 26), .mv (.t 6), none, []⟩,
           ⟨(some 27), .un .not (.t 26), none, []⟩])
         (.cond (.t 27)
          (.seq
           (.reg [] [
             ⟨(some 2), .cn (.k (.slice none 0 0)), none, []⟩,
             ⟨(some 3), .mv (.k (.bool false)), none, []⟩])
           (.ret i_ref17_Of_r))
          .skip))
        (.seq
         (.reg [] [
           ⟨(some 28), .cn (.t 4), none, [4]⟩,
           ⟨(some 2), .cn (.t 28), none, [28]⟩,
           ⟨(some 3), .mv (.k (.bool true)), none, []⟩])
         (.ret i_ref17_Of_r)))))))),
  [.tmp 2, .tmp 3], [], false, []⟩

def i_ref17_Bytes_r : List Bool := [false, false, true, false, false, false, false, false, false, false, false, false, false, false, false, false, false, false, false, false]
def i_ref17_Bytes_j1 : List Bool := [true, false, false, true, true, false, false, false, false, false, false, false, false, false, false, false, false, false, false, false]
def i_ref17_Bytes_k0 : List Bool := [true, false, false, true, true, false, false, false, false, false, false, false, false, false, false, false, false, false, false, false]
def i_ref17_Bytes_j0 : List Bool := [false, false, false, true, false, false, false, false, false, false, false, false, false, false, false, false, false, false, false, false]
abbrev s_ref17_Bytes_R (t2 : AV) (h : Heap) : St := ⟨[.undef, .undef, t2, .undef, .undef, .undef, .undef, .undef, .undef, .undef, .undef, .undef, .undef, .undef, .undef, .undef, .undef, .undef, .undef, .undef], h⟩
abbrev s_ref17_Bytes_K0 (t0 t3 t4 : AV) (h : Heap) : St := ⟨[t0, .undef, .undef, t3, t4, .undef, .undef, .undef, .undef, .undef, .undef, .undef, .undef, .undef, .undef, .undef, .undef, .undef, .undef, .undef], h⟩
def i_ref17_Bytes_b0 : IR :=
  (.seq
   (.seq
    (.reg [] [
      ⟨(some 5), .mv (.t 4), none, []⟩,
      ⟨(some 6), .cn (.t 0), none, []⟩,
      ⟨(some 7), .len false (.t 6), none, []⟩,
      ⟨(some 8), .bin .plain .lss (.t 5) (.t 7), none, []⟩])
    (.cond (.t 8)
     .skip
     (.exit 0 i_ref17_Bytes_j0)))
   (.seq
    (.block 1 i_ref17_Bytes_j1
     (.reg [] [
       ⟨(some 11), .mv (.t 3), none, []⟩,
       ⟨(some 12), .cn (.t 0), none, []⟩,
       ⟨(some 13), .mv (.t 4), none, []⟩,
       ⟨(some 14), .ia 1 (.t 12) (.t 13), none, []⟩,
       ⟨(some 15), .load false 1 (.t 14), none, []⟩,
       ⟨(some 16), .conv .u8 (.t 15), none, []⟩,
       ⟨(some 17), .litd 1 1 [(.int .u8 0)] [(0, (.t 16))], none, []⟩,
       ⟨(some 18), .app 0 ty_uint8 1 1 (.t 11) (.t 17), none, []⟩,
       ⟨(some 3), .mv (.t 18), none, []⟩]))
    (.reg [] [
      ⟨(some 9), .mv (.t 4), none, []⟩,
      ⟨(some 10), .bin .plain .add (.t 9) (.k (.int .i64 1)), none, []⟩,
      ⟨(some 4), .mv (.t 10), none, []⟩])))

abbrev s_ref17_Bytes_J0 (t3 : AV) (h : Heap) : St := ⟨[.undef, .undef, .undef, t3, .undef, .undef, .undef, .undef, .undef, .undef, .undef, .undef, .undef, .undef, .undef, .undef, .undef, .undef, .undef, .undef], h⟩
/-- heartwood/heartwoodref17.Bytes -/
def i_ref17_Bytes : Ev.Fn := ⟨1, 20, 1,
  (.seq
   (.reg [] [
     ⟨(some 2), .cn (.k (.slice none 0 0)), none, []⟩])
   (.seq
    (.reg [] [
      ⟨(some 3), .mv (.k (.slice none 0 0)), none, []⟩])
    (.seq
     (.seq
      (.reg [] [
        ⟨(some 4), .mv (.k (.int .i64 0)), none, []⟩])
      (.block 0 i_ref17_Bytes_j0
       (.loop i_ref17_Bytes_k0 i_ref17_Bytes_b0)))
     (.seq
      (.reg [] [
        ⟨(some 19), .cn (.t 3), none, [3]⟩,
        ⟨(some 2), .cn (.t 19), none, [19]⟩])
      (.ret i_ref17_Bytes_r))))),
  [.tmp 2], [], false, []⟩

def tab (f : Nat) : Option Ev.Fn := match f with
  | 3 => some i_law17_ConfMost
  | 15 => some i_law17_up
  | 18 => some i_conf_Most
  | 16 => some i_conf_Has
  | 53 => some i_slices_Contains_sl_int_int
  | 91 => some i_slices_Index_sl_int_int
  | 27 => some i_conf_May
  | 20 => some i_conf_Step
  | 55 => some i_conf_Step_1
  | 54 => some i_slices_ContainsFunc_sl_int_int
  | 92 => some i_slices_IndexFunc_sl_int_int
  | 17 => some i_ref17_Has
  | 19 => some i_ref17_Most
  | 25 => some i_ref17_May
  | 4 => some i_law17_ConfStep
  | 21 => some i_ref17_Step
  | 5 => some i_law17_ConfMeet
  | 22 => some i_ref17_Same
  | 6 => some i_law17_ConfBytes
  | 23 => some i_conf_Bytes
  | 24 => some i_conf_Of
  | 26 => some i_ref17_Of
  | 28 => some i_ref17_Bytes
  | _ => none
theorem t_law17_ConfMost : tab n_law17_ConfMost = some i_law17_ConfMost := rfl
theorem t_law17_up : tab n_law17_up = some i_law17_up := rfl
theorem t_conf_Most : tab n_conf_Most = some i_conf_Most := rfl
theorem t_conf_Has : tab n_conf_Has = some i_conf_Has := rfl
theorem t_slices_Contains_sl_int_int : tab n_slices_Contains_sl_int_int = some i_slices_Contains_sl_int_int := rfl
theorem t_slices_Index_sl_int_int : tab n_slices_Index_sl_int_int = some i_slices_Index_sl_int_int := rfl
theorem t_conf_May : tab n_conf_May = some i_conf_May := rfl
theorem t_conf_Step : tab n_conf_Step = some i_conf_Step := rfl
theorem t_conf_Step_1 : tab n_conf_Step_1 = some i_conf_Step_1 := rfl
theorem t_slices_ContainsFunc_sl_int_int : tab n_slices_ContainsFunc_sl_int_int = some i_slices_ContainsFunc_sl_int_int := rfl
theorem t_slices_IndexFunc_sl_int_int : tab n_slices_IndexFunc_sl_int_int = some i_slices_IndexFunc_sl_int_int := rfl
theorem t_ref17_Has : tab n_ref17_Has = some i_ref17_Has := rfl
theorem t_ref17_Most : tab n_ref17_Most = some i_ref17_Most := rfl
theorem t_ref17_May : tab n_ref17_May = some i_ref17_May := rfl
theorem t_law17_ConfStep : tab n_law17_ConfStep = some i_law17_ConfStep := rfl
theorem t_ref17_Step : tab n_ref17_Step = some i_ref17_Step := rfl
theorem t_law17_ConfMeet : tab n_law17_ConfMeet = some i_law17_ConfMeet := rfl
theorem t_ref17_Same : tab n_ref17_Same = some i_ref17_Same := rfl
theorem t_law17_ConfBytes : tab n_law17_ConfBytes = some i_law17_ConfBytes := rfl
theorem t_conf_Bytes : tab n_conf_Bytes = some i_conf_Bytes := rfl
theorem t_conf_Of : tab n_conf_Of = some i_conf_Of := rfl
theorem t_ref17_Of : tab n_ref17_Of = some i_ref17_Of := rfl
theorem t_ref17_Bytes : tab n_ref17_Bytes = some i_ref17_Bytes := rfl
def G0 : Cf := ⟨fun _ => [], true⟩
theorem G0_gf : G0.gf = true := rfl
attribute [go_sem] G0_gf
theorem lt_law17_ConfMost : (n_law17_ConfMost < 1000000) = True := eq_true (by decide)
attribute [go_sem] lt_law17_ConfMost
theorem lt_law17_up : (n_law17_up < 1000000) = True := eq_true (by decide)
attribute [go_sem] lt_law17_up
theorem lt_conf_Most : (n_conf_Most < 1000000) = True := eq_true (by decide)
attribute [go_sem] lt_conf_Most
theorem lt_conf_Has : (n_conf_Has < 1000000) = True := eq_true (by decide)
attribute [go_sem] lt_conf_Has
theorem lt_slices_Contains_sl_int_int : (n_slices_Contains_sl_int_int < 1000000) = True := eq_true (by decide)
attribute [go_sem] lt_slices_Contains_sl_int_int
theorem lt_slices_Index_sl_int_int : (n_slices_Index_sl_int_int < 1000000) = True := eq_true (by decide)
attribute [go_sem] lt_slices_Index_sl_int_int
theorem lt_conf_May : (n_conf_May < 1000000) = True := eq_true (by decide)
attribute [go_sem] lt_conf_May
theorem lt_conf_Step : (n_conf_Step < 1000000) = True := eq_true (by decide)
attribute [go_sem] lt_conf_Step
theorem lt_conf_Step_1 : (n_conf_Step_1 < 1000000) = True := eq_true (by decide)
attribute [go_sem] lt_conf_Step_1
theorem lt_slices_ContainsFunc_sl_int_int : (n_slices_ContainsFunc_sl_int_int < 1000000) = True := eq_true (by decide)
attribute [go_sem] lt_slices_ContainsFunc_sl_int_int
theorem lt_slices_IndexFunc_sl_int_int : (n_slices_IndexFunc_sl_int_int < 1000000) = True := eq_true (by decide)
attribute [go_sem] lt_slices_IndexFunc_sl_int_int
theorem lt_ref17_Has : (n_ref17_Has < 1000000) = True := eq_true (by decide)
attribute [go_sem] lt_ref17_Has
theorem lt_ref17_Most : (n_ref17_Most < 1000000) = True := eq_true (by decide)
attribute [go_sem] lt_ref17_Most
theorem lt_ref17_May : (n_ref17_May < 1000000) = True := eq_true (by decide)
attribute [go_sem] lt_ref17_May
theorem lt_law17_ConfStep : (n_law17_ConfStep < 1000000) = True := eq_true (by decide)
attribute [go_sem] lt_law17_ConfStep
theorem lt_ref17_Step : (n_ref17_Step < 1000000) = True := eq_true (by decide)
attribute [go_sem] lt_ref17_Step
theorem lt_law17_ConfMeet : (n_law17_ConfMeet < 1000000) = True := eq_true (by decide)
attribute [go_sem] lt_law17_ConfMeet
theorem lt_ref17_Same : (n_ref17_Same < 1000000) = True := eq_true (by decide)
attribute [go_sem] lt_ref17_Same
theorem lt_law17_ConfBytes : (n_law17_ConfBytes < 1000000) = True := eq_true (by decide)
attribute [go_sem] lt_law17_ConfBytes
theorem lt_conf_Bytes : (n_conf_Bytes < 1000000) = True := eq_true (by decide)
attribute [go_sem] lt_conf_Bytes
theorem lt_conf_Of : (n_conf_Of < 1000000) = True := eq_true (by decide)
attribute [go_sem] lt_conf_Of
theorem lt_ref17_Of : (n_ref17_Of < 1000000) = True := eq_true (by decide)
attribute [go_sem] lt_ref17_Of
theorem lt_ref17_Bytes : (n_ref17_Bytes < 1000000) = True := eq_true (by decide)
attribute [go_sem] lt_ref17_Bytes
theorem ca_law17_ConfMost (l : List AV) : cArgs tab n_law17_ConfMost l = canonA [] l := rfl
attribute [go_sem] t_law17_ConfMost ca_law17_ConfMost
theorem ca_law17_up (l : List AV) : cArgs tab n_law17_up l = canonA [] l := rfl
attribute [go_sem] t_law17_up ca_law17_up
theorem ca_conf_Most (l : List AV) : cArgs tab n_conf_Most l = canonA [] l := rfl
attribute [go_sem] t_conf_Most ca_conf_Most
theorem ca_conf_Has (l : List AV) : cArgs tab n_conf_Has l = canonA [] l := rfl
attribute [go_sem] t_conf_Has ca_conf_Has
theorem ca_slices_Contains_sl_int_int (l : List AV) : cArgs tab n_slices_Contains_sl_int_int l = canonA [] l := rfl
attribute [go_sem] t_slices_Contains_sl_int_int ca_slices_Contains_sl_int_int
theorem ca_slices_Index_sl_int_int (l : List AV) : cArgs tab n_slices_Index_sl_int_int l = canonA [] l := rfl
attribute [go_sem] t_slices_Index_sl_int_int ca_slices_Index_sl_int_int
theorem ca_conf_May (l : List AV) : cArgs tab n_conf_May l = canonA [] l := rfl
attribute [go_sem] t_conf_May ca_conf_May
theorem ca_conf_Step (l : List AV) : cArgs tab n_conf_Step l = canonA [] l := rfl
attribute [go_sem] t_conf_Step ca_conf_Step
theorem ca_conf_Step_1 (l : List AV) : cArgs tab n_conf_Step_1 l = canonA [] l := rfl
attribute [go_sem] t_conf_Step_1 ca_conf_Step_1
theorem ca_slices_ContainsFunc_sl_int_int (l : List AV) : cArgs tab n_slices_ContainsFunc_sl_int_int l = canonA [] l := rfl
attribute [go_sem] t_slices_ContainsFunc_sl_int_int ca_slices_ContainsFunc_sl_int_int
theorem ca_slices_IndexFunc_sl_int_int (l : List AV) : cArgs tab n_slices_IndexFunc_sl_int_int l = canonA [] l := rfl
attribute [go_sem] t_slices_IndexFunc_sl_int_int ca_slices_IndexFunc_sl_int_int
theorem ca_ref17_Has (l : List AV) : cArgs tab n_ref17_Has l = canonA [] l := rfl
attribute [go_sem] t_ref17_Has ca_ref17_Has
theorem ca_ref17_Most (l : List AV) : cArgs tab n_ref17_Most l = canonA [] l := rfl
attribute [go_sem] t_ref17_Most ca_ref17_Most
theorem ca_ref17_May (l : List AV) : cArgs tab n_ref17_May l = canonA [] l := rfl
attribute [go_sem] t_ref17_May ca_ref17_May
theorem ca_law17_ConfStep (l : List AV) : cArgs tab n_law17_ConfStep l = canonA [] l := rfl
attribute [go_sem] t_law17_ConfStep ca_law17_ConfStep
theorem ca_ref17_Step (l : List AV) : cArgs tab n_ref17_Step l = canonA [] l := rfl
attribute [go_sem] t_ref17_Step ca_ref17_Step
theorem ca_law17_ConfMeet (l : List AV) : cArgs tab n_law17_ConfMeet l = canonA [] l := rfl
attribute [go_sem] t_law17_ConfMeet ca_law17_ConfMeet
theorem ca_ref17_Same (l : List AV) : cArgs tab n_ref17_Same l = canonA [] l := rfl
attribute [go_sem] t_ref17_Same ca_ref17_Same
theorem ca_law17_ConfBytes (l : List AV) : cArgs tab n_law17_ConfBytes l = canonA [] l := rfl
attribute [go_sem] t_law17_ConfBytes ca_law17_ConfBytes
theorem ca_conf_Bytes (l : List AV) : cArgs tab n_conf_Bytes l = canonA [] l := rfl
attribute [go_sem] t_conf_Bytes ca_conf_Bytes
theorem ca_conf_Of (l : List AV) : cArgs tab n_conf_Of l = canonA [] l := rfl
attribute [go_sem] t_conf_Of ca_conf_Of
theorem ca_ref17_Of (l : List AV) : cArgs tab n_ref17_Of l = canonA [] l := rfl
attribute [go_sem] t_ref17_Of ca_ref17_Of
theorem ca_ref17_Bytes (l : List AV) : cArgs tab n_ref17_Bytes l = canonA [] l := rfl
attribute [go_sem] t_ref17_Bytes ca_ref17_Bytes
theorem kt_law17_ConfMost_r (l : List AV) : keepT i_law17_ConfMost_r l = keepT [false, false, false, false, false, false, true, false, false, false, false, false, false, false, false, false, false, false, false, false, false, false, false, false, false, false, false, false, false, false, false, false, false, false, false, false, false] l := rfl
attribute [go_sem] kt_law17_ConfMost_r
theorem kt_law17_up_r (l : List AV) : keepT i_law17_up_r l = keepT [true, false, false, false, false, false, false, false, false, false, false, false, false, false, false, false, false, false, false, false, false] l := rfl
attribute [go_sem] kt_law17_up_r
theorem kt_conf_Most_r (l : List AV) : keepT i_conf_Most_r l = keepT [false, false, false, false, true, false, false, false, false, false, false, false, false, false, false, false, false, false, false, false, false, false, false, false, false, false, false, false, false] l := rfl
attribute [go_sem] kt_conf_Most_r
theorem kt_conf_Most_j1 (l : List AV) : keepT i_conf_Most_j1 l = keepT [true, true, false, false, false, true, false, false, true, true, true, false, false, false, false, false, false, false, false, false, false, false, false, false, false, false, false, false, false] l := rfl
attribute [go_sem] kt_conf_Most_j1
theorem kt_conf_Most_k0 (l : List AV) : keepT i_conf_Most_k0 l = keepT [true, true, false, false, false, true, false, false, true, true, true, false, false, false, false, false, false, false, false, false, false, false, false, false, false, false, false, false, false] l := rfl
attribute [go_sem] kt_conf_Most_k0
theorem kt_conf_Most_j0 (l : List AV) : keepT i_conf_Most_j0 l = keepT [true, false, false, false, false, true, false, false, false, false, false, false, false, false, false, false, false, false, false, false, false, false, false, false, false, false, false, false, false] l := rfl
attribute [go_sem] kt_conf_Most_j0
theorem kt_conf_Has_r (l : List AV) : keepT i_conf_Has_r l = keepT [false, false, false, false, true, false, false, false] l := rfl
attribute [go_sem] kt_conf_Has_r
theorem kt_slices_Contains_sl_int_int_r (l : List AV) : keepT i_slices_Contains_sl_int_int_r l = keepT [false, false, false, false, true, false, false, false, false] l := rfl
attribute [go_sem] kt_slices_Contains_sl_int_int_r
theorem kt_slices_Index_sl_int_int_r (l : List AV) : keepT i_slices_Index_sl_int_int_r l = keepT [false, false, false, false, true, false, false, false, false, false, false, false, false, false, false, false, false, false, false] l := rfl
attribute [go_sem] kt_slices_Index_sl_int_int_r
theorem kt_slices_Index_sl_int_int_j1 (l : List AV) : keepT i_slices_Index_sl_int_int_j1 l = keepT [true, true, false, false, false, false, false, true, true, false, false, false, false, false, false, false, false, false, false] l := rfl
attribute [go_sem] kt_slices_Index_sl_int_int_j1
theorem kt_slices_Index_sl_int_int_k0 (l : List AV) : keepT i_slices_Index_sl_int_int_k0 l = keepT [true, true, false, false, false, false, false, true, true, false, false, false, false, false, false, false, false, false, false] l := rfl
attribute [go_sem] kt_slices_Index_sl_int_int_k0
theorem kt_slices_Index_sl_int_int_j0 (l : List AV) : keepT i_slices_Index_sl_int_int_j0 l = keepT [false, false, false, false, false, false, false, false, false, false, false, false, false, false, false, false, false, false, false] l := rfl
attribute [go_sem] kt_slices_Index_sl_int_int_j0
theorem kt_conf_May_r (l : List AV) : keepT i_conf_May_r l = keepT [false, false, true, false, false, false, false, false, false, false, false, false, false, false, false, false, false, false, false, false, false, false, false, false, false, false, false, false, false, false, false, false, false, false, false] l := rfl
attribute [go_sem] kt_conf_May_r
theorem kt_conf_May_j1 (l : List AV) : keepT i_conf_May_j1 l = keepT [true, false, false, false, false, true, true, true, false, false, false, false, false, false, false, false, false, false, false, false, false, false, false, false, false, false, false, false, false, false, false, false, false, false, false] l := rfl
attribute [go_sem] kt_conf_May_j1
theorem kt_conf_May_k0 (l : List AV) : keepT i_conf_May_k0 l = keepT [true, false, false, false, false, true, true, true, false, false, false, false, false, false, false, false, false, false, false, false, false, false, false, false, false, false, false, false, false, false, false, false, false, false, false] l := rfl
attribute [go_sem] kt_conf_May_k0
theorem kt_conf_May_j0 (l : List AV) : keepT i_conf_May_j0 l = keepT [true, false, false, false, false, false, false, false, false, false, false, false, false, false, false, false, false, false, false, false, false, false, false, false, false, false, false, false, false, false, false, false, false, false, false] l := rfl
attribute [go_sem] kt_conf_May_j0
theorem kt_conf_Step_r (l : List AV) : keepT i_conf_Step_r l = keepT [false, false, false, false, true, false, false, false, false, false, false, false, false, false, false, false, false, false, false, false, false, false, false, false, false, false, false, false, false, false, false, false] l := rfl
attribute [go_sem] kt_conf_Step_r
theorem kt_conf_Step_1_r (l : List AV) : keepT i_conf_Step_1_r l = keepT [false, false, false, true, false, false, false, false] l := rfl
attribute [go_sem] kt_conf_Step_1_r
theorem kt_slices_ContainsFunc_sl_int_int_r (l : List AV) : keepT i_slices_ContainsFunc_sl_int_int_r l = keepT [false, false, false, false, true, false, false, false, false] l := rfl
attribute [go_sem] kt_slices_ContainsFunc_sl_int_int_r
theorem kt_slices_IndexFunc_sl_int_int_r (l : List AV) : keepT i_slices_IndexFunc_sl_int_int_r l = keepT [false, false, false, false, true, false, false, false, false, false, false, false, false, false, false, false, false, false, false] l := rfl
attribute [go_sem] kt_slices_IndexFunc_sl_int_int_r
theorem kt_slices_IndexFunc_sl_int_int_j1 (l : List AV) : keepT i_slices_IndexFunc_sl_int_int_j1 l = keepT [true, true, false, false, false, false, false, true, true, false, false, false, false, false, false, false, false, false, false] l := rfl
attribute [go_sem] kt_slices_IndexFunc_sl_int_int_j1
theorem kt_slices_IndexFunc_sl_int_int_k0 (l : List AV) : keepT i_slices_IndexFunc_sl_int_int_k0 l = keepT [true, true, false, false, false, false, false, true, true, false, false, false, false, false, false, false, false, false, false] l := rfl
attribute [go_sem] kt_slices_IndexFunc_sl_int_int_k0
theorem kt_slices_IndexFunc_sl_int_int_j0 (l : List AV) : keepT i_slices_IndexFunc_sl_int_int_j0 l = keepT [false, false, false, false, false, false, false, false, false, false, false, false, false, false, false, false, false, false, false] l := rfl
attribute [go_sem] kt_slices_IndexFunc_sl_int_int_j0
theorem kt_ref17_Has_r (l : List AV) : keepT i_ref17_Has_r l = keepT [false, false, false, false, true, false, false, false, false, false, false, false, false, false, false, false, false, false] l := rfl
attribute [go_sem] kt_ref17_Has_r
theorem kt_ref17_Has_j1 (l : List AV) : keepT i_ref17_Has_j1 l = keepT [true, true, false, false, false, true, false, false, false, false, false, false, false, false, false, false, false, false] l := rfl
attribute [go_sem] kt_ref17_Has_j1
theorem kt_ref17_Has_k0 (l : List AV) : keepT i_ref17_Has_k0 l = keepT [true, true, false, false, false, true, false, false, false, false, false, false, false, false, false, false, false, false] l := rfl
attribute [go_sem] kt_ref17_Has_k0
theorem kt_ref17_Has_j0 (l : List AV) : keepT i_ref17_Has_j0 l = keepT [false, false, false, false, false, false, false, false, false, false, false, false, false, false, false, false, false, false] l := rfl
attribute [go_sem] kt_ref17_Has_j0
theorem kt_ref17_Most_r (l : List AV) : keepT i_ref17_Most_r l = keepT [false, false, false, false, true, false, false, false, false, false, false, false, false, false, false, false, false, false, false, false, false, false, false, false, false, false, false, false, false, false, false, false, false, false] l := rfl
attribute [go_sem] kt_ref17_Most_r
theorem kt_ref17_Most_j1 (l : List AV) : keepT i_ref17_Most_j1 l = keepT [true, true, false, false, false, true, true, true, false, false, false, false, false, false, false, false, false, false, false, false, false, false, false, false, false, false, false, false, false, false, false, false, false, false] l := rfl
attribute [go_sem] kt_ref17_Most_j1
theorem kt_ref17_Most_k0 (l : List AV) : keepT i_ref17_Most_k0 l = keepT [true, true, false, false, false, true, true, true, false, false, false, false, false, false, false, false, false, false, false, false, false, false, false, false, false, false, false, false, false, false, false, false, false, false] l := rfl
attribute [go_sem] kt_ref17_Most_k0
theorem kt_ref17_Most_j0 (l : List AV) : keepT i_ref17_Most_j0 l = keepT [true, false, false, false, false, true, true, false, false, false, false, false, false, false, false, false, false, false, false, false, false, false, false, false, false, false, false, false, false, false, false, false, false, false] l := rfl
attribute [go_sem] kt_ref17_Most_j0
theorem kt_ref17_May_r (l : List AV) : keepT i_ref17_May_r l = keepT [false, false, true, false, false, false, false, false, false, false, false, false, false, false, false, false, false, false, false, false, false, false, false, false, false, false, false, false, false, false, false, false, false, false, false, false, false, false, false, false, false, false, false, false, false, false] l := rfl
attribute [go_sem] kt_ref17_May_r
theorem kt_ref17_May_j1 (l : List AV) : keepT i_ref17_May_j1 l = keepT [true, false, false, true, false, false, false, false, false, false, false, false, false, false, false, false, false, false, false, false, false, false, false, false, false, false, false, false, false, false, false, false, false, false, false, false, false, false, false, false, false, false, false, false, false, false] l := rfl
attribute [go_sem] kt_ref17_May_j1
theorem kt_ref17_May_k0 (l : List AV) : keepT i_ref17_May_k0 l = keepT [true, false, false, true, false, false, false, false, false, false, false, false, false, false, false, false, false, false, false, false, false, false, false, false, false, false, false, false, false, false, false, false, false, false, false, false, false, false, false, false, false, false, false, false, false, false] l := rfl
attribute [go_sem] kt_ref17_May_k0
theorem kt_ref17_May_j0 (l : List AV) : keepT i_ref17_May_j0 l = keepT [false, false, false, false, false, false, false, false, false, false, false, false, false, false, false, false, false, false, false, false, false, false, false, false, false, false, false, false, false, false, false, false, false, false, false, false, false, false, false, false, false, false, false, false, false, false] l := rfl
attribute [go_sem] kt_ref17_May_j0
theorem kt_law17_ConfStep_r (l : List AV) : keepT i_law17_ConfStep_r l = keepT [false, false, false, false, true, false, false, false, false, false, false, false, false, false, false, false, false] l := rfl
attribute [go_sem] kt_law17_ConfStep_r
theorem kt_ref17_Step_r (l : List AV) : keepT i_ref17_Step_r l = keepT [false, false, false, false, true, false, false, false, false, false, false, false, false, false, false, false, false, false, false, false, false, false, false, false, false, false, false, false, false, false] l := rfl
attribute [go_sem] kt_ref17_Step_r
theorem kt_ref17_Step_j1 (l : List AV) : keepT i_ref17_Step_j1 l = keepT [true, true, false, false, false, true, true, false, false, false, false, false, false, false, false, false, false, false, false, false, false, false, false, false, false, false, false, false, false, false] l := rfl
attribute [go_sem] kt_ref17_Step_j1
theorem kt_ref17_Step_k0 (l : List AV) : keepT i_ref17_Step_k0 l = keepT [true, true, false, false, false, true, true, false, false, false, false, false, false, false, false, false, false, false, false, false, false, false, false, false, false, false, false, false, false, false] l := rfl
attribute [go_sem] kt_ref17_Step_k0
theorem kt_ref17_Step_j0 (l : List AV) : keepT i_ref17_Step_j0 l = keepT [false, false, false, false, false, true, false, false, false, false, false, false, false, false, false, false, false, false, false, false, false, false, false, false, false, false, false, false, false, false] l := rfl
attribute [go_sem] kt_ref17_Step_j0
theorem kt_law17_ConfMeet_r (l : List AV) : keepT i_law17_ConfMeet_r l = keepT [false, false, false, false, false, false, false, false, true, false, false, false, false, false, false, false, false, false, false, false, false, false, false, false, false, false, false, false, false, false, false, false, false, false, false, false, false, false, false, false, false, false, false, false, false, false, false, false, false, false, false, false, false, false, false, false, false, false, false, false, false, false, false, false, false, false, false, false] l := rfl
attribute [go_sem] kt_law17_ConfMeet_r
theorem kt_law17_ConfMeet_j1 (l : List AV) : keepT i_law17_ConfMeet_j1 l = keepT [true, true, true, true, false, false, false, false, false, true, false, true, false, false, false, false, false, false, false, false, false, false, false, false, false, false, false, false, false, false, false, false, false, false, false, false, false, false, false, false, false, false, false, false, false, false, false, false, false, false, false, false, false, false, false, false, false, false, false, false, false, false, false, false, false, false, false, false] l := rfl
attribute [go_sem] kt_law17_ConfMeet_j1
theorem kt_law17_ConfMeet_k0 (l : List AV) : keepT i_law17_ConfMeet_k0 l = keepT [true, true, true, true, false, false, false, false, false, true, false, true, false, false, false, false, false, false, false, false, false, false, false, false, false, false, false, false, false, false, false, false, false, false, false, false, false, false, false, false, false, false, false, false, false, false, false, false, false, false, false, false, false, false, false, false, false, false, false, false, false, false, false, false, false, false, false, false] l := rfl
attribute [go_sem] kt_law17_ConfMeet_k0
theorem kt_law17_ConfMeet_j0 (l : List AV) : keepT i_law17_ConfMeet_j0 l = keepT [false, false, false, false, false, false, false, false, false, false, false, false, false, false, false, false, false, false, false, false, false, false, false, false, false, false, false, false, false, false, false, false, false, false, false, false, false, false, false, false, false, false, false, false, false, false, false, false, false, false, false, false, false, false, false, false, false, false, false, false, false, false, false, false, false, false, false, false] l := rfl
attribute [go_sem] kt_law17_ConfMeet_j0
theorem kt_ref17_Same_r (l : List AV) : keepT i_ref17_Same_r l = keepT [false, false, false, false, true, false, false, false, false, false, false, false, false, false, false, false, false, false, false, false, false, false, false, false, false, false] l := rfl
attribute [go_sem] kt_ref17_Same_r
theorem kt_ref17_Same_j1 (l : List AV) : keepT i_ref17_Same_j1 l = keepT [true, true, false, false, false, true, false, false, false, false, false, false, false, false, false, false, false, false, false, false, false, false, false, false, false, false] l := rfl
attribute [go_sem] kt_ref17_Same_j1
theorem kt_ref17_Same_k0 (l : List AV) : keepT i_ref17_Same_k0 l = keepT [true, true, false, false, false, true, false, false, false, false, false, false, false, false, false, false, false, false, false, false, false, false, false, false, false, false] l := rfl
attribute [go_sem] kt_ref17_Same_k0
theorem kt_ref17_Same_j0 (l : List AV) : keepT i_ref17_Same_j0 l = keepT [false, false, false, false, false, false, false, false, false, false, false, false, false, false, false, false, false, false, false, false, false, false, false, false, false, false] l := rfl
attribute [go_sem] kt_ref17_Same_j0
theorem kt_law17_ConfBytes_r (l : List AV) : keepT i_law17_ConfBytes_r l = keepT [false, false, false, false, true, false, false, false, false, false, false, false, false, false, false, false, false, false, false, false, false, false, false, false, false, false, false, false, false, false, false, false, false, false, false, false, false, false, false, false, false, false, false, false, false, false, false, false, false, false, false, false, false, false, false, false, false, false, false, false, false, false, false, false, false, false, false, false, false, false, false, false, false, false, false, false, false, false, false, false, false, false, false, false, false, false, false, false, false, false, false, false, false, false, false, false, false, false, false] l := rfl
attribute [go_sem] kt_law17_ConfBytes_r
theorem kt_conf_Bytes_r (l : List AV) : keepT i_conf_Bytes_r l = keepT [false, false, true, true, false, false, false, false, false, false, false, false, false, false, false, false, false, false, false, false, false, false, false, false] l := rfl
attribute [go_sem] kt_conf_Bytes_r
theorem kt_conf_Bytes_j1 (l : List AV) : keepT i_conf_Bytes_j1 l = keepT [false, false, false, false, true, false, false, false, false, false, false, true, true, true, false, false, false, false, false, false, false, false, false, false] l := rfl
attribute [go_sem] kt_conf_Bytes_j1
theorem kt_conf_Bytes_k0 (l : List AV) : keepT i_conf_Bytes_k0 l = keepT [false, false, false, false, true, false, false, false, false, false, false, true, true, true, false, false, false, false, false, false, false, false, false, false] l := rfl
attribute [go_sem] kt_conf_Bytes_k0
theorem kt_conf_Bytes_j0 (l : List AV) : keepT i_conf_Bytes_j0 l = keepT [false, false, false, false, true, false, false, false, false, false, false, false, false, false, false, false, false, false, false, false, false, false, false, false] l := rfl
attribute [go_sem] kt_conf_Bytes_j0
theorem kt_conf_Of_r (l : List AV) : keepT i_conf_Of_r l = keepT [false, false, true, true, false, false, false, false, false, false, false, false, false, false, false, false, false, false, false, false, false, false, false, false] l := rfl
attribute [go_sem] kt_conf_Of_r
theorem kt_conf_Of_j1 (l : List AV) : keepT i_conf_Of_j1 l = keepT [false, false, false, false, true, false, false, true, true, true, false, false, false, false, false, false, false, false, false, false, false, false, false, false] l := rfl
attribute [go_sem] kt_conf_Of_j1
theorem kt_conf_Of_k0 (l : List AV) : keepT i_conf_Of_k0 l = keepT [false, false, false, false, true, false, false, true, true, true, false, false, false, false, false, false, false, false, false, false, false, false, false, false] l := rfl
attribute [go_sem] kt_conf_Of_k0
theorem kt_conf_Of_j0 (l : List AV) : keepT i_conf_Of_j0 l = keepT [false, false, false, false, true, false, false, false, false, false, false, false, false, false, false, false, false, false, false, false, false, false, false, false] l := rfl
attribute [go_sem] kt_conf_Of_j0
theorem kt_ref17_Of_r (l : List AV) : keepT i_ref17_Of_r l = keepT [false, false, true, true, false, false, false, false, false, false, false, false, false, false, false, false, false, false, false, false, false, false, false, false, false, false, false, false, false] l := rfl
attribute [go_sem] kt_ref17_Of_r
theorem kt_ref17_Of_j1 (l : List AV) : keepT i_ref17_Of_j1 l = keepT [true, false, false, false, true, true, false, false, false, false, false, false, false, false, false, false, false, false, false, false, false, false, false, false, false, false, false, false, false] l := rfl
attribute [go_sem] kt_ref17_Of_j1
theorem kt_ref17_Of_k0 (l : List AV) : keepT i_ref17_Of_k0 l = keepT [true, false, false, false, true, true, false, false, false, false, false, false, false, false, false, false, false, false, false, false, false, false, false, false, false, false, false, false, false] l := rfl
attribute [go_sem] kt_ref17_Of_k0
theorem kt_ref17_Of_j0 (l : List AV) : keepT i_ref17_Of_j0 l = keepT [false, false, false, false, true, false, false, false, false, false, false, false, false, false, false, false, false, false, false, false, false, false, false, false, false, false, false, false, false] l := rfl
attribute [go_sem] kt_ref17_Of_j0
theorem kt_ref17_Bytes_r (l : List AV) : keepT i_ref17_Bytes_r l = keepT [false, false, true, false, false, false, false, false, false, false, false, false, false, false, false, false, false, false, false, false] l := rfl
attribute [go_sem] kt_ref17_Bytes_r
theorem kt_ref17_Bytes_j1 (l : List AV) : keepT i_ref17_Bytes_j1 l = keepT [true, false, false, true, true, false, false, false, false, false, false, false, false, false, false, false, false, false, false, false] l := rfl
attribute [go_sem] kt_ref17_Bytes_j1
theorem kt_ref17_Bytes_k0 (l : List AV) : keepT i_ref17_Bytes_k0 l = keepT [true, false, false, true, true, false, false, false, false, false, false, false, false, false, false, false, false, false, false, false] l := rfl
attribute [go_sem] kt_ref17_Bytes_k0
theorem kt_ref17_Bytes_j0 (l : List AV) : keepT i_ref17_Bytes_j0 l = keepT [false, false, false, true, false, false, false, false, false, false, false, false, false, false, false, false, false, false, false, false] l := rfl
attribute [go_sem] kt_ref17_Bytes_j0
noncomputable def L_conf_Most_0 (st : St) : Option (Ex × St) := lp tab G0 0 i_conf_Most_k0 i_conf_Most_b0 st
theorem L_conf_Most_0_eq (st : St) : L_conf_Most_0 st = againL L_conf_Most_0 0 i_conf_Most_k0 (app tab G0 0 [] (ex tab G0 0 i_conf_Most_b0 st)) := lp_eq tab G0 0 i_conf_Most_k0 i_conf_Most_b0 st
theorem L_conf_Most_0_in (K : List Fr) (st : St) : app tab G0 0 K (ex tab G0 0 (.loop i_conf_Most_k0 i_conf_Most_b0) st) = app tab G0 0 K (L_conf_Most_0 (clean 0 i_conf_Most_k0 st)) := rfl
attribute [go_sem] L_conf_Most_0_in
noncomputable def L_slices_Index_sl_int_int_0 (st : St) : Option (Ex × St) := lp tab G0 0 i_slices_Index_sl_int_int_k0 i_slices_Index_sl_int_int_b0 st
theorem L_slices_Index_sl_int_int_0_eq (st : St) : L_slices_Index_sl_int_int_0 st = againL L_slices_Index_sl_int_int_0 0 i_slices_Index_sl_int_int_k0 (app tab G0 0 [] (ex tab G0 0 i_slices_Index_sl_int_int_b0 st)) := lp_eq tab G0 0 i_slices_Index_sl_int_int_k0 i_slices_Index_sl_int_int_b0 st
theorem L_slices_Index_sl_int_int_0_in (K : List Fr) (st : St) : app tab G0 0 K (ex tab G0 0 (.loop i_slices_Index_sl_int_int_k0 i_slices_Index_sl_int_int_b0) st) = app tab G0 0 K (L_slices_Index_sl_int_int_0 (clean 0 i_slices_Index_sl_int_int_k0 st)) := rfl
attribute [go_sem] L_slices_Index_sl_int_int_0_in
noncomputable def L_conf_May_0 (st : St) : Option (Ex × St) := lp tab G0 0 i_conf_May_k0 i_conf_May_b0 st
theorem L_conf_May_0_eq (st : St) : L_conf_May_0 st = againL L_conf_May_0 0 i_conf_May_k0 (app tab G0 0 [] (ex tab G0 0 i_conf_May_b0 st)) := lp_eq tab G0 0 i_conf_May_k0 i_conf_May_b0 st
theorem L_conf_May_0_in (K : List Fr) (st : St) : app tab G0 0 K (ex tab G0 0 (.loop i_conf_May_k0 i_conf_May_b0) st) = app tab G0 0 K (L_conf_May_0 (clean 0 i_conf_May_k0 st)) := rfl
attribute [go_sem] L_conf_May_0_in
noncomputable def L_slices_IndexFunc_sl_int_int_0 (st : St) : Option (Ex × St) := lp tab G0 0 i_slices_IndexFunc_sl_int_int_k0 i_slices_IndexFunc_sl_int_int_b0 st
theorem L_slices_IndexFunc_sl_int_int_0_eq (st : St) : L_slices_IndexFunc_sl_int_int_0 st = againL L_slices_IndexFunc_sl_int_int_0 0 i_slices_IndexFunc_sl_int_int_k0 (app tab G0 0 [] (ex tab G0 0 i_slices_IndexFunc_sl_int_int_b0 st)) := lp_eq tab G0 0 i_slices_IndexFunc_sl_int_int_k0 i_slices_IndexFunc_sl_int_int_b0 st
theorem L_slices_IndexFunc_sl_int_int_0_in (K : List Fr) (st : St) : app tab G0 0 K (ex tab G0 0 (.loop i_slices_IndexFunc_sl_int_int_k0 i_slices_IndexFunc_sl_int_int_b0) st) = app tab G0 0 K (L_slices_IndexFunc_sl_int_int_0 (clean 0 i_slices_IndexFunc_sl_int_int_k0 st)) := rfl
attribute [go_sem] L_slices_IndexFunc_sl_int_int_0_in
noncomputable def L_ref17_Has_0 (st : St) : Option (Ex × St) := lp tab G0 0 i_ref17_Has_k0 i_ref17_Has_b0 st
theorem L_ref17_Has_0_eq (st : St) : L_ref17_Has_0 st = againL L_ref17_Has_0 0 i_ref17_Has_k0 (app tab G0 0 [] (ex tab G0 0 i_ref17_Has_b0 st)) := lp_eq tab G0 0 i_ref17_Has_k0 i_ref17_Has_b0 st
theorem L_ref17_Has_0_in (K : List Fr) (st : St) : app tab G0 0 K (ex tab G0 0 (.loop i_ref17_Has_k0 i_ref17_Has_b0) st) = app tab G0 0 K (L_ref17_Has_0 (clean 0 i_ref17_Has_k0 st)) := rfl
attribute [go_sem] L_ref17_Has_0_in
noncomputable def L_ref17_Most_0 (st : St) : Option (Ex × St) := lp tab G0 0 i_ref17_Most_k0 i_ref17_Most_b0 st
theorem L_ref17_Most_0_eq (st : St) : L_ref17_Most_0 st = againL L_ref17_Most_0 0 i_ref17_Most_k0 (app tab G0 0 [] (ex tab G0 0 i_ref17_Most_b0 st)) := lp_eq tab G0 0 i_ref17_Most_k0 i_ref17_Most_b0 st
theorem L_ref17_Most_0_in (K : List Fr) (st : St) : app tab G0 0 K (ex tab G0 0 (.loop i_ref17_Most_k0 i_ref17_Most_b0) st) = app tab G0 0 K (L_ref17_Most_0 (clean 0 i_ref17_Most_k0 st)) := rfl
attribute [go_sem] L_ref17_Most_0_in
noncomputable def L_ref17_May_0 (st : St) : Option (Ex × St) := lp tab G0 0 i_ref17_May_k0 i_ref17_May_b0 st
theorem L_ref17_May_0_eq (st : St) : L_ref17_May_0 st = againL L_ref17_May_0 0 i_ref17_May_k0 (app tab G0 0 [] (ex tab G0 0 i_ref17_May_b0 st)) := lp_eq tab G0 0 i_ref17_May_k0 i_ref17_May_b0 st
theorem L_ref17_May_0_in (K : List Fr) (st : St) : app tab G0 0 K (ex tab G0 0 (.loop i_ref17_May_k0 i_ref17_May_b0) st) = app tab G0 0 K (L_ref17_May_0 (clean 0 i_ref17_May_k0 st)) := rfl
attribute [go_sem] L_ref17_May_0_in
noncomputable def L_ref17_Step_0 (st : St) : Option (Ex × St) := lp tab G0 0 i_ref17_Step_k0 i_ref17_Step_b0 st
theorem L_ref17_Step_0_eq (st : St) : L_ref17_Step_0 st = againL L_ref17_Step_0 0 i_ref17_Step_k0 (app tab G0 0 [] (ex tab G0 0 i_ref17_Step_b0 st)) := lp_eq tab G0 0 i_ref17_Step_k0 i_ref17_Step_b0 st
theorem L_ref17_Step_0_in (K : List Fr) (st : St) : app tab G0 0 K (ex tab G0 0 (.loop i_ref17_Step_k0 i_ref17_Step_b0) st) = app tab G0 0 K (L_ref17_Step_0 (clean 0 i_ref17_Step_k0 st)) := rfl
attribute [go_sem] L_ref17_Step_0_in
noncomputable def L_law17_ConfMeet_0 (st : St) : Option (Ex × St) := lp tab G0 0 i_law17_ConfMeet_k0 i_law17_ConfMeet_b0 st
theorem L_law17_ConfMeet_0_eq (st : St) : L_law17_ConfMeet_0 st = againL L_law17_ConfMeet_0 0 i_law17_ConfMeet_k0 (app tab G0 0 [] (ex tab G0 0 i_law17_ConfMeet_b0 st)) := lp_eq tab G0 0 i_law17_ConfMeet_k0 i_law17_ConfMeet_b0 st
theorem L_law17_ConfMeet_0_in (K : List Fr) (st : St) : app tab G0 0 K (ex tab G0 0 (.loop i_law17_ConfMeet_k0 i_law17_ConfMeet_b0) st) = app tab G0 0 K (L_law17_ConfMeet_0 (clean 0 i_law17_ConfMeet_k0 st)) := rfl
attribute [go_sem] L_law17_ConfMeet_0_in
noncomputable def L_ref17_Same_0 (st : St) : Option (Ex × St) := lp tab G0 0 i_ref17_Same_k0 i_ref17_Same_b0 st
theorem L_ref17_Same_0_eq (st : St) : L_ref17_Same_0 st = againL L_ref17_Same_0 0 i_ref17_Same_k0 (app tab G0 0 [] (ex tab G0 0 i_ref17_Same_b0 st)) := lp_eq tab G0 0 i_ref17_Same_k0 i_ref17_Same_b0 st
theorem L_ref17_Same_0_in (K : List Fr) (st : St) : app tab G0 0 K (ex tab G0 0 (.loop i_ref17_Same_k0 i_ref17_Same_b0) st) = app tab G0 0 K (L_ref17_Same_0 (clean 0 i_ref17_Same_k0 st)) := rfl
attribute [go_sem] L_ref17_Same_0_in
noncomputable def L_conf_Bytes_0 (st : St) : Option (Ex × St) := lp tab G0 1 i_conf_Bytes_k0 i_conf_Bytes_b0 st
theorem L_conf_Bytes_0_eq (st : St) : L_conf_Bytes_0 st = againL L_conf_Bytes_0 1 i_conf_Bytes_k0 (app tab G0 1 [] (ex tab G0 1 i_conf_Bytes_b0 st)) := lp_eq tab G0 1 i_conf_Bytes_k0 i_conf_Bytes_b0 st
theorem L_conf_Bytes_0_in (K : List Fr) (st : St) : app tab G0 1 K (ex tab G0 1 (.loop i_conf_Bytes_k0 i_conf_Bytes_b0) st) = app tab G0 1 K (L_conf_Bytes_0 (clean 1 i_conf_Bytes_k0 st)) := rfl
attribute [go_sem] L_conf_Bytes_0_in
noncomputable def L_conf_Of_0 (st : St) : Option (Ex × St) := lp tab G0 1 i_conf_Of_k0 i_conf_Of_b0 st
theorem L_conf_Of_0_eq (st : St) : L_conf_Of_0 st = againL L_conf_Of_0 1 i_conf_Of_k0 (app tab G0 1 [] (ex tab G0 1 i_conf_Of_b0 st)) := lp_eq tab G0 1 i_conf_Of_k0 i_conf_Of_b0 st
theorem L_conf_Of_0_in (K : List Fr) (st : St) : app tab G0 1 K (ex tab G0 1 (.loop i_conf_Of_k0 i_conf_Of_b0) st) = app tab G0 1 K (L_conf_Of_0 (clean 1 i_conf_Of_k0 st)) := rfl
attribute [go_sem] L_conf_Of_0_in
noncomputable def L_ref17_Of_0 (st : St) : Option (Ex × St) := lp tab G0 1 i_ref17_Of_k0 i_ref17_Of_b0 st
theorem L_ref17_Of_0_eq (st : St) : L_ref17_Of_0 st = againL L_ref17_Of_0 1 i_ref17_Of_k0 (app tab G0 1 [] (ex tab G0 1 i_ref17_Of_b0 st)) := lp_eq tab G0 1 i_ref17_Of_k0 i_ref17_Of_b0 st
theorem L_ref17_Of_0_in (K : List Fr) (st : St) : app tab G0 1 K (ex tab G0 1 (.loop i_ref17_Of_k0 i_ref17_Of_b0) st) = app tab G0 1 K (L_ref17_Of_0 (clean 1 i_ref17_Of_k0 st)) := rfl
attribute [go_sem] L_ref17_Of_0_in
noncomputable def L_ref17_Bytes_0 (st : St) : Option (Ex × St) := lp tab G0 1 i_ref17_Bytes_k0 i_ref17_Bytes_b0 st
theorem L_ref17_Bytes_0_eq (st : St) : L_ref17_Bytes_0 st = againL L_ref17_Bytes_0 1 i_ref17_Bytes_k0 (app tab G0 1 [] (ex tab G0 1 i_ref17_Bytes_b0 st)) := lp_eq tab G0 1 i_ref17_Bytes_k0 i_ref17_Bytes_b0 st
theorem L_ref17_Bytes_0_in (K : List Fr) (st : St) : app tab G0 1 K (ex tab G0 1 (.loop i_ref17_Bytes_k0 i_ref17_Bytes_b0) st) = app tab G0 1 K (L_ref17_Bytes_0 (clean 1 i_ref17_Bytes_k0 st)) := rfl
attribute [go_sem] L_ref17_Bytes_0_in
end Go.Proofs.Ytkfaahjcncpmhaa
