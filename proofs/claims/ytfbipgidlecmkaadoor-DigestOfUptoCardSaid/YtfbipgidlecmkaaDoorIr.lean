/- The IR of the seat's functions, printed by a program of this session. -/
import Derived.Test.YtfbipgidlecmkaaDoorIrP0
set_option linter.unusedVariables false
namespace Go.Proofs.YtfbipgidlecmkaaDoor
open Go.Ev

def i_ref01_Tables_Sum_r : List Bool := [false, false, false, false, true, false, false, false, false, false, false, false, false, false, false, false, false, false, false, false, false, false, false, false, false, false, false, false, false, false, false, false, false, false, false, false, false, false, false, false, false, false, false, false, false, false, false, false, false, false, false, false, false]
def i_ref01_Tables_Sum_j1 : List Bool := [false, false, true, false, false, true, true, true, false, false, false, false, false, false, false, false, false, false, false, false, false, false, false, false, false, false, false, false, false, false, false, false, false, false, false, false, false, false, false, false, false, false, false, false, false, false, false, false, false, false, false, false, false]
def i_ref01_Tables_Sum_k0 : List Bool := [false, false, true, false, false, true, true, true, false, false, false, false, false, false, false, false, false, false, false, false, false, false, false, false, false, false, false, false, false, false, false, false, false, false, false, false, false, false, false, false, false, false, false, false, false, false, false, false, false, false, false, false, false]
def i_ref01_Tables_Sum_j0 : List Bool := [false, false, false, false, false, false, true, false, false, false, false, false, false, false, false, false, false, false, false, false, false, false, false, false, false, false, false, false, false, false, false, false, false, false, false, false, false, false, false, false, false, false, false, false, false, false, false, false, false, false, false, false, false]
def i_ref01_Tables_Sum_j3 : List Bool := [false, false, false, false, false, false, true, false, true, true, false, false, false, false, false, false, false, false, false, false, false, false, false, false, false, false, false, false, false, false, false, false, false, false, false, false, false, false, false, false, false, false, false, false, false, false, false, false, false, false, false, false, false]
def i_ref01_Tables_Sum_k1 : List Bool := [false, false, false, false, false, false, true, false, true, true, false, false, false, false, false, false, false, false, false, false, false, false, false, false, false, false, false, false, false, false, false, false, false, false, false, false, false, false, false, false, false, false, false, false, false, false, false, false, false, false, false, false, false]
def i_ref01_Tables_Sum_j2 : List Bool := [false, false, false, false, false, false, false, false, true, false, false, false, false, false, false, false, false, false, false, false, false, false, false, false, false, false, false, false, false, false, false, false, false, false, false, false, false, false, false, false, false, false, false, false, false, false, false, false, false, false, false, false, false]
abbrev s_ref01_Tables_Sum_R (t4 : AV) (h : Heap) : St := ⟨[.undef, .undef, .undef, .undef, t4, .undef, .undef, .undef, .undef, .undef, .undef, .undef, .undef, .undef, .undef, .undef, .undef, .undef, .undef, .undef, .undef, .undef, .undef, .undef, .undef, .undef, .undef, .undef, .undef, .undef, .undef, .undef, .undef, .undef, .undef, .undef, .undef, .undef, .undef, .undef, .undef, .undef, .undef, .undef, .undef, .undef, .undef, .undef, .undef, .undef, .undef, .undef, .undef], h⟩
abbrev s_ref01_Tables_Sum_K0 (t2 t5 t6 t7 : AV) (h : Heap) : St := ⟨[.undef, .undef, t2, .undef, .undef, t5, t6, t7, .undef, .undef, .undef, .undef, .undef, .undef, .undef, .undef, .undef, .undef, .undef, .undef, .undef, .undef, .undef, .undef, .undef, .undef, .undef, .undef, .undef, .undef, .undef, .undef, .undef, .undef, .undef, .undef, .undef, .undef, .undef, .undef, .undef, .undef, .undef, .undef, .undef, .undef, .undef, .undef, .undef, .undef, .undef, .undef, .undef], h⟩
def i_ref01_Tables_Sum_b0 : IR :=
  (.seq
   (.seq
    (.reg [] [
      ⟨(some 20), .mv (.t 7), none, []⟩,
      ⟨(some 21), .cn (.t 5), none, []⟩,
      ⟨(some 22), .len false (.t 21), none, []⟩,
      ⟨(some 23), .bin .plain .lss (.t 20) (.t 22), none, []⟩])
    (.cond (.t 23)
     .skip
     (.exit 0 i_ref01_Tables_Sum_j0)))
   (.seq
    (.block 1 i_ref01_Tables_Sum_j1
     (.reg [(0, 6), (1, 6)] [
       ⟨(some 26), .load true 9 (.t 2), none, []⟩,
       ⟨(some 27), .load true 8 (.t 6), none, []⟩,
       ⟨(some 28), .cn (.t 5), none, []⟩,
       ⟨(some 29), .mv (.t 7), none, []⟩,
       ⟨(some 30), .mv (.t 7), none, []⟩,
       ⟨(some 31), .bin .plain .add (.t 30) (.k (.int .i64 64)), none, []⟩,
       ⟨(some 32), .slice 1 (.t 28) (some (.t 29)) (some (.t 31)) none, none, [28]⟩,
       ⟨(some 33), .qcall n_ref01_Tables_Step [(.t 26), (.t 27), (.t 32)] [], none, []⟩,
       ⟨none, .store 8 (.t 6) (.t 33), none, []⟩]))
    (.reg [] [
      ⟨(some 24), .mv (.t 7), none, []⟩,
      ⟨(some 25), .bin .plain .add (.t 24) (.k (.int .i64 64)), none, []⟩,
      ⟨(some 7), .mv (.t 25), none, []⟩])))

abbrev s_ref01_Tables_Sum_J0 (t6 : AV) (h : Heap) : St := ⟨[.undef, .undef, .undef, .undef, .undef, .undef, t6, .undef, .undef, .undef, .undef, .undef, .undef, .undef, .undef, .undef, .undef, .undef, .undef, .undef, .undef, .undef, .undef, .undef, .undef, .undef, .undef, .undef, .undef, .undef, .undef, .undef, .undef, .undef, .undef, .undef, .undef, .undef, .undef, .undef, .undef, .undef, .undef, .undef, .undef, .undef, .undef, .undef, .undef, .undef, .undef, .undef, .undef], h⟩
abbrev s_ref01_Tables_Sum_K1 (t6 t8 t9 : AV) (h : Heap) : St := ⟨[.undef, .undef, .undef, .undef, .undef, .undef, t6, .undef, t8, t9, .undef, .undef, .undef, .undef, .undef, .undef, .undef, .undef, .undef, .undef, .undef, .undef, .undef, .undef, .undef, .undef, .undef, .undef, .undef, .undef, .undef, .undef, .undef, .undef, .undef, .undef, .undef, .undef, .undef, .undef, .undef, .undef, .undef, .undef, .undef, .undef, .undef, .undef, .undef, .undef, .undef, .undef, .undef], h⟩
def i_ref01_Tables_Sum_b1 : IR :=
  (.seq
   (.seq
    (.reg [] [
      ⟨(some 35), .mv (.t 9), none, []⟩,
      ⟨(some 36), .bin .plain .lss (.t 35) (.k (.int .i64 32)), none, []⟩])
    (.cond (.t 36)
     .skip
     (.exit 2 i_ref01_Tables_Sum_j2)))
   (.seq
    (.block 3 i_ref01_Tables_Sum_j3
     (.reg [] [
       ⟨(some 39), .mv (.t 8), none, []⟩,
       ⟨(some 40), .mv (.t 9), none, []⟩,
       ⟨(some 41), .mv (.t 9), none, []⟩,
       ⟨(some 42), .bin .plain .quo (.t 41) (.k (.int .i64 4)), none, []⟩,
       ⟨(some 43), .iap 8 1 (.t 6) (.t 42), none, []⟩,
       ⟨(some 44), .load false 1 (.t 43), none, []⟩,
       ⟨(some 45), .mv (.t 9), none, []⟩,
       ⟨(some 46), .bin .plain .rem (.t 45) (.k (.int .i64 4)), none, []⟩,
       ⟨(some 47), .bin .plain .mul (.k (.int .i64 8)) (.t 46), none, []⟩,
       ⟨(some 48), .bin .plain .sub (.k (.int .i64 24)) (.t 47), none, []⟩,
       ⟨(some 49), .bin .plain .shr (.t 44) (.t 48), none, []⟩,
       ⟨(some 50), .conv .u8 (.t 49), none, []⟩,
       ⟨(some 51), .ia 1 (.t 39) (.t 40), none, []⟩,
       ⟨none, .store 1 (.t 51) (.t 50), none, []⟩]))
    (.reg [] [
      ⟨(some 37), .mv (.t 9), none, []⟩,
      ⟨(some 38), .bin .plain .add (.t 37) (.k (.int .i64 1)), none, []⟩,
      ⟨(some 9), .mv (.t 38), none, []⟩])))

abbrev s_ref01_Tables_Sum_J2 (t8 : AV) (h : Heap) : St := ⟨[.undef, .undef, .undef, .undef, .undef, .undef, .undef, .undef, t8, .undef, .undef, .undef, .undef, .undef, .undef, .undef, .undef, .undef, .undef, .undef, .undef, .undef, .undef, .undef, .undef, .undef, .undef, .undef, .undef, .undef, .undef, .undef, .undef, .undef, .undef, .undef, .undef, .undef, .undef, .undef, .undef, .undef, .undef, .undef, .undef, .undef, .undef, .undef, .undef, .undef, .undef, .undef, .undef], h⟩
/-- (heartwood/heartwoodref01.Tables).Sum -/
def i_ref01_Tables_Sum : Ev.Fn := ⟨2, 53, 4,
  (.seq
   (.reg [] [
     ⟨(some 2), .box 0 9 (.t 0), none, []⟩,
     ⟨(some 4), .cn (.k (.slice none 0 0)), none, []⟩])
   (.seq
    (.reg [] [
      ⟨(some 10), .lit 1 ty_uint8 1 0 [(.int .u8 0)] [], none, []⟩,
      ⟨(some 11), .cn (.t 1), none, []⟩,
      ⟨(some 12), .app 1 ty_uint8 1 1 (.t 10) (.t 11), none, []⟩,
      ⟨(some 5), .mv (.t 12), none, []⟩])
    (.seq
     (.reg [] [
       ⟨(some 13), .mv (.t 5), none, []⟩,
       ⟨(some 14), .cn (.t 1), none, []⟩,
       ⟨(some 15), .len false (.t 14), none, []⟩,
       ⟨(some 16), .qcall n_ref01_Tail [(.t 15)] [], none, []⟩,
       ⟨(some 17), .app 1 ty_uint8 1 1 (.t 13) (.t 16), none, []⟩,
       ⟨(some 5), .mv (.t 17), none, []⟩])
     (.seq
      (.reg [] [
        ⟨(some 18), .fa 1 (.t 2), none, []⟩,
        ⟨(some 19), .load true 8 (.t 18), none, []⟩,
        ⟨(some 6), .new 2 [(.int .u32 0), (.int .u32 0), (.int .u32 0), (.int .u32 0), (.int .u32 0), (.int .u32 0), (.int .u32 0), (.int .u32 0)], none, []⟩,
        ⟨none, .store 8 (.t 6) (.t 19), none, []⟩])
      (.seq
       (.seq
        (.reg [] [
          ⟨(some 7), .mv (.k (.int .i64 0)), none, []⟩])
        (.block 0 i_ref01_Tables_Sum_j0
         (.loop i_ref01_Tables_Sum_k0 i_ref01_Tables_Sum_b0)))
       (.seq
        (.reg [] [
          ⟨(some 34), .make 3 ty_uint8 1 1 [(.int .u8 0)] (.k (.int .i64 32)) (.k (.int .i64 32)), none, []⟩,
          ⟨(some 8), .mv (.t 34), none, []⟩])
        (.seq
         (.seq
          (.reg [] [
            ⟨(some 9), .mv (.k (.int .i64 0)), none, []⟩])
          (.block 2 i_ref01_Tables_Sum_j2
           (.loop i_ref01_Tables_Sum_k1 i_ref01_Tables_Sum_b1)))
         (.seq
          (.reg [] [
            ⟨(some 52), .cn (.t 8), none, [8]⟩,
            ⟨(some 4), .cn (.t 52), none, [52]⟩])
          (.ret i_ref01_Tables_Sum_r))))))))),
  [.tmp 4], [], false, []⟩

def i_ref01_Tail_r : List Bool := [false, false, true, false, false, false, false, false, false, false, false, false, false, false, false, false, false, false, false, false, false, false, false, false, false, false, false, false, false, false, false, false, false, false, false, false]
def i_ref01_Tail_j1 : List Bool := [true, false, false, true, false, false, false, false, false, false, false, false, false, false, false, false, false, false, false, false, false, false, false, false, false, false, false, false, false, false, false, false, false, false, false, false]
def i_ref01_Tail_k0 : List Bool := [true, false, false, true, false, false, false, false, false, false, false, false, false, false, false, false, false, false, false, false, false, false, false, false, false, false, false, false, false, false, false, false, false, false, false, false]
def i_ref01_Tail_j0 : List Bool := [true, false, false, true, false, false, false, false, false, false, false, false, false, false, false, false, false, false, false, false, false, false, false, false, false, false, false, false, false, false, false, false, false, false, false, false]
def i_ref01_Tail_j3 : List Bool := [false, false, false, true, true, true, true, false, false, false, false, false, false, false, false, false, false, false, false, false, false, false, false, false, false, false, false, false, false, false, false, false, false, false, false, false]
def i_ref01_Tail_k1 : List Bool := [false, false, false, true, true, true, true, false, false, false, false, false, false, false, false, false, false, false, false, false, false, false, false, false, false, false, false, false, false, false, false, false, false, false, false, false]
def i_ref01_Tail_j2 : List Bool := [false, false, false, true, true, false, false, false, false, false, false, false, false, false, false, false, false, false, false, false, false, false, false, false, false, false, false, false, false, false, false, false, false, false, false, false]
abbrev s_ref01_Tail_R (t2 : AV) (h : Heap) : St := ⟨[.undef, .undef, t2, .undef, .undef, .undef, .undef, .undef, .undef, .undef, .undef, .undef, .undef, .undef, .undef, .undef, .undef, .undef, .undef, .undef, .undef, .undef, .undef, .undef, .undef, .undef, .undef, .undef, .undef, .undef, .undef, .undef, .undef, .undef, .undef, .undef], h⟩
abbrev s_ref01_Tail_K0 (t0 t3 : AV) (h : Heap) : St := ⟨[t0, .undef, .undef, t3, .undef, .undef, .undef, .undef, .undef, .undef, .undef, .undef, .undef, .undef, .undef, .undef, .undef, .undef, .undef, .undef, .undef, .undef, .undef, .undef, .undef, .undef, .undef, .undef, .undef, .undef, .undef, .undef, .undef, .undef, .undef, .undef], h⟩
def i_ref01_Tail_b0 : IR :=
  (.seq
   (.seq
    (.reg [] [
      ⟨(some 8), .mv (.t 0), none, []⟩,
      ⟨(some 9), .cn (.t 3), none, []⟩,
      ⟨(some 10), .len false (.t 9), none, []⟩,
      ⟨(some 11), .bin .plain .add (.t 8) (.t 10), none, []⟩,
      ⟨(some 12), .bin .plain .rem (.t 11) (.k (.int .i64 64)), none, []⟩,
      ⟨(some 13), .bin .plain .neq (.t 12) (.k (.int .i64 56)), none, []⟩])
    (.cond (.t 13)
     .skip
     (.exit 0 i_ref01_Tail_j0)))
   (.block 1 i_ref01_Tail_j1
    (.reg [] [
      ⟨(some 14), .mv (.t 3), none, []⟩,
      ⟨(some 15), .litd 1 1 [(.int .u8 0)] [(0, (.k (.int .u8 0)))], none, []⟩,
      ⟨(some 16), .app 0 ty_uint8 1 1 (.t 14) (.t 15), none, []⟩,
      ⟨(some 3), .mv (.t 16), none, []⟩])))

abbrev s_ref01_Tail_J0 (t0 t3 : AV) (h : Heap) : St := ⟨[t0, .undef, .undef, t3, .undef, .undef, .undef, .undef, .undef, .undef, .undef, .undef, .undef, .undef, .undef, .undef, .undef, .undef, .undef, .undef, .undef, .undef, .undef, .undef, .undef, .undef, .undef, .undef, .undef, .undef, .undef, .undef, .undef, .undef, .undef, .undef], h⟩
abbrev s_ref01_Tail_K1 (t3 t4 t5 t6 : AV) (h : Heap) : St := ⟨[.undef, .undef, .undef, t3, t4, t5, t6, .undef, .undef, .undef, .undef, .undef, .undef, .undef, .undef, .undef, .undef, .undef, .undef, .undef, .undef, .undef, .undef, .undef, .undef, .undef, .undef, .undef, .undef, .undef, .undef, .undef, .undef, .undef, .undef, .undef], h⟩
def i_ref01_Tail_b1 : IR :=
  (.seq
   (.seq
    (.reg [] [
      ⟨(some 21), .mv (.t 6), none, []⟩,
      ⟨(some 22), .bin .plain .geq (.t 21) (.k (.int .i64 0)), none, []⟩])
    (.cond (.t 22)
     .skip
     (.exit 2 i_ref01_Tail_j2)))
   (.seq
    (.block 3 i_ref01_Tail_j3
     (.seq
      (.reg [] [
        ⟨(some 25), .mv (.t 4), none, []⟩,
        ⟨(some 26), .mv (.t 6), none, []⟩,
        ⟨(some 27), .mv (.t 5), none, []⟩,
        ⟨(some 28), .bin .plain .rem (.t 27) (.k (.int .u64 256)), none, []⟩,
        ⟨(some 29), .conv .u8 (.t 28), none, []⟩,
        ⟨(some 30), .ia 1 (.t 25) (.t 26), none, []⟩,
        ⟨none, .store 1 (.t 30) (.t 29), none, []⟩])
      (.reg [] [
        ⟨(some 31), .mv (.t 5), none, []⟩,
        ⟨(some 32), .bin .plain .quo (.t 31) (.k (.int .u64 256)), none, []⟩,
        ⟨(some 5), .mv (.t 32), none, []⟩])))
    (.reg [] [
      ⟨(some 23), .mv (.t 6), none, []⟩,
      ⟨(some 24), .bin .plain .sub (.t 23) (.k (.int .i64 1)), none, []⟩,
      ⟨(some 6), .mv (.t 24), none, []⟩])))

abbrev s_ref01_Tail_J2 (t3 t4 : AV) (h : Heap) : St := ⟨[.undef, .undef, .undef, t3, t4, .undef, .undef, .undef, .undef, .undef, .undef, .undef, .undef, .undef, .undef, .undef, .undef, .undef, .undef, .undef, .undef, .undef, .undef, .undef, .undef, .undef, .undef, .undef, .undef, .undef, .undef, .undef, .undef, .undef, .undef, .undef], h⟩
/-- heartwood/heartwoodref01.Tail -/
def i_ref01_Tail : Ev.Fn := ⟨1, 36, 2,
  (.seq
   (.reg [] [
     ⟨(some 2), .cn (.k (.slice none 0 0)), none, []⟩])
   (.seq
    (.reg [] [
      ⟨(some 7), .lit 0 ty_uint8 1 1 [(.int .u8 0)] [(0, (.k (.int .u8 128)))], none, []⟩,
      ⟨(some 3), .mv (.t 7), none, []⟩])
    (.seq
     (.block 0 i_ref01_Tail_j0
      (.loop i_ref01_Tail_k0 i_ref01_Tail_b0))
     (.seq
      (.reg [] [
        ⟨(some 17), .make 1 ty_uint8 1 1 [(.int .u8 0)] (.k (.int .i64 8)) (.k (.int .i64 8)), none, []⟩,
        ⟨(some 4), .mv (.t 17), none, []⟩])
      (.seq
       (.reg [] [
         ⟨(some 18), .mv (.t 0), none, []⟩,
         ⟨(some 19), .conv .u64 (.t 18), none, []⟩,
         ⟨(some 20), .bin .plain .mul (.k (.int .u64 8)) (.t 19), none, []⟩,
         ⟨(some 5), .mv (.t 20), none, []⟩])
       (.seq
        (.seq
         (.reg [] [
           ⟨(some 6), .mv (.k (.int .i64 7)), none, []⟩])
         (.block 2 i_ref01_Tail_j2
          (.loop i_ref01_Tail_k1 i_ref01_Tail_b1)))
        (.seq
         (.reg [] [
           ⟨(some 33), .mv (.t 3), none, []⟩,
           ⟨(some 34), .cn (.t 4), none, [4]⟩,
           ⟨(some 35), .app 0 ty_uint8 1 1 (.t 33) (.t 34), none, []⟩,
           ⟨(some 2), .cn (.t 35), none, [35]⟩])
         (.ret i_ref01_Tail_r)))))))),
  [.tmp 2], [], false, []⟩

def i_law01_ShaStays_r : List Bool := [false, false, false, false, true, false, false, false, false, false, false, false, false, false, false, false, false, false, false, false, false, false, false, false, false, false, false, false, false, false, false, false, false, false, false, false, false, false, false, false, false, false, false, false, false, false, false, false, false, false, false, false, false, false, false, false, false, false, false, false, false, false, false, false, false, false, false, false, false, false, false, false, false, false, false, false, false, false, false, false, false, false, false, false, false, false, false, false, false, false, false]
def i_law01_ShaStays_j1 : List Bool := [true, false, false, true, false, true, true, true, false, false, false, false, false, false, false, false, false, false, false, false, false, false, false, false, false, false, false, false, false, false, false, false, false, false, false, false, false, false, false, false, false, false, false, false, false, false, false, false, false, false, false, false, false, false, false, false, false, false, false, false, false, false, false, false, false, false, false, false, false, false, false, false, false, false, false, false, false, false, false, false, false, false, false, false, false, false, false, false, false, false, false]
def i_law01_ShaStays_k0 : List Bool := [true, false, false, true, false, true, true, true, false, false, false, false, false, false, false, false, false, false, false, false, false, false, false, false, false, false, false, false, false, false, false, false, false, false, false, false, false, false, false, false, false, false, false, false, false, false, false, false, false, false, false, false, false, false, false, false, false, false, false, false, false, false, false, false, false, false, false, false, false, false, false, false, false, false, false, false, false, false, false, false, false, false, false, false, false, false, false, false, false, false, false]
def i_law01_ShaStays_j0 : List Bool := [true, false, false, true, false, false, true, false, false, false, false, false, false, false, false, false, false, false, false, false, false, false, false, false, false, false, false, false, false, false, false, false, false, false, false, false, false, false, false, false, false, false, false, false, false, false, false, false, false, false, false, false, false, false, false, false, false, false, false, false, false, false, false, false, false, false, false, false, false, false, false, false, false, false, false, false, false, false, false, false, false, false, false, false, false, false, false, false, false, false, false]
def i_law01_ShaStays_j3 : List Bool := [false, false, false, true, false, false, true, false, true, true, true, false, false, false, false, false, false, false, false, false, false, false, false, false, false, false, false, false, false, false, false, false, false, false, false, false, false, false, false, false, false, false, false, false, false, false, false, false, false, false, false, false, false, false, false, false, false, false, false, false, false, false, false, false, false, false, false, false, false, false, false, false, false, false, false, false, false, false, false, false, false, false, false, false, false, false, false, false, false, false, false]
def i_law01_ShaStays_k1 : List Bool := [false, false, false, true, false, false, true, false, true, true, true, false, false, false, false, false, false, false, false, false, false, false, false, false, false, false, false, false, false, false, false, false, false, false, false, false, false, false, false, false, false, false, false, false, false, false, false, false, false, false, false, false, false, false, false, false, false, false, false, false, false, false, false, false, false, false, false, false, false, false, false, false, false, false, false, false, false, false, false, false, false, false, false, false, false, false, false, false, false, false, false]
def i_law01_ShaStays_j2 : List Bool := [false, false, false, true, false, false, true, false, true, true, false, false, false, false, false, false, false, false, false, false, false, false, false, false, false, false, false, false, false, false, false, false, false, false, false, false, false, false, false, false, false, false, false, false, false, false, false, false, false, false, false, false, false, false, false, false, false, false, false, false, false, false, false, false, false, false, false, false, false, false, false, false, false, false, false, false, false, false, false, false, false, false, false, false, false, false, false, false, false, false, false]
def i_law01_ShaStays_j5 : List Bool := [false, false, false, true, false, false, true, false, true, true, false, true, true, true, false, false, false, false, false, false, false, false, false, false, false, false, false, false, false, false, false, false, false, false, false, false, false, false, false, false, false, false, false, false, false, false, false, false, false, false, false, false, false, false, false, false, false, false, false, false, false, false, false, false, false, false, false, false, false, false, false, false, false, false, false, false, false, false, false, false, false, false, false, false, false, false, false, false, false, false, false]
def i_law01_ShaStays_k2 : List Bool := [false, false, false, true, false, false, true, false, true, true, false, true, true, true, false, false, false, false, false, false, false, false, false, false, false, false, false, false, false, false, false, false, false, false, false, false, false, false, false, false, false, false, false, false, false, false, false, false, false, false, false, false, false, false, false, false, false, false, false, false, false, false, false, false, false, false, false, false, false, false, false, false, false, false, false, false, false, false, false, false, false, false, false, false, false, false, false, false, false, false, false]
def i_law01_ShaStays_j4 : List Bool := [false, false, false, false, false, false, true, false, true, false, false, true, true, false, false, false, false, false, false, false, false, false, false, false, false, false, false, false, false, false, false, false, false, false, false, false, false, false, false, false, false, false, false, false, false, false, false, false, false, false, false, false, false, false, false, false, false, false, false, false, false, false, false, false, false, false, false, false, false, false, false, false, false, false, false, false, false, false, false, false, false, false, false, false, false, false, false, false, false, false, false]
abbrev s_law01_ShaStays_R (t4 : AV) (h : Heap) : St := ⟨[.undef, .undef, .undef, .undef, t4, .undef, .undef, .undef, .undef, .undef, .undef, .undef, .undef, .undef, .undef, .undef, .undef, .undef, .undef, .undef, .undef, .undef, .undef, .undef, .undef, .undef, .undef, .undef, .undef, .undef, .undef, .undef, .undef, .undef, .undef, .undef, .undef, .undef, .undef, .undef, .undef, .undef, .undef, .undef, .undef, .undef, .undef, .undef, .undef, .undef, .undef, .undef, .undef, .undef, .undef, .undef, .undef, .undef, .undef, .undef, .undef, .undef, .undef, .undef, .undef, .undef, .undef, .undef, .undef, .undef, .undef, .undef, .undef, .undef, .undef, .undef, .undef, .undef, .undef, .undef, .undef, .undef, .undef, .undef, .undef, .undef, .undef, .undef, .undef, .undef, .undef], h⟩
abbrev s_law01_ShaStays_K0 (t0 t3 t5 t6 t7 : AV) (h : Heap) : St := ⟨[t0, .undef, .undef, t3, .undef, t5, t6, t7, .undef, .undef, .undef, .undef, .undef, .undef, .undef, .undef, .undef, .undef, .undef, .undef, .undef, .undef, .undef, .undef, .undef, .undef, .undef, .undef, .undef, .undef, .undef, .undef, .undef, .undef, .undef, .undef, .undef, .undef, .undef, .undef, .undef, .undef, .undef, .undef, .undef, .undef, .undef, .undef, .undef, .undef, .undef, .undef, .undef, .undef, .undef, .undef, .undef, .undef, .undef, .undef, .undef, .undef, .undef, .undef, .undef, .undef, .undef, .undef, .undef, .undef, .undef, .undef, .undef, .undef, .undef, .undef, .undef, .undef, .undef, .undef, .undef, .undef, .undef, .undef, .undef, .undef, .undef, .undef, .undef, .undef, .undef], h⟩
def i_law01_ShaStays_b0 : IR :=
  (.seq
   (.seq
    (.reg [] [
      ⟨(some 34), .mv (.t 7), none, []⟩,
      ⟨(some 35), .cn (.t 5), none, []⟩,
      ⟨(some 36), .len false (.t 35), none, []⟩,
      ⟨(some 37), .bin .plain .lss (.t 34) (.t 36), none, []⟩])
    (.cond (.t 37)
     .skip
     (.exit 0 i_law01_ShaStays_j0)))
   (.seq
    (.block 1 i_law01_ShaStays_j1
     (.reg [] [
       ⟨(some 40), .mv (.t 5), none, []⟩,
       ⟨(some 41), .mv (.t 7), none, []⟩,
       ⟨(some 42), .cn (.t 5), none, []⟩,
       ⟨(some 43), .mv (.t 7), none, []⟩,
       ⟨(some 44), .ia 1 (.t 42) (.t 43), none, []⟩,
       ⟨(some 45), .load false 1 (.t 44), none, []⟩,
       ⟨(some 46), .bin .plain .add (.t 45) (.k (.int .u8 1)), none, []⟩,
       ⟨(some 47), .ia 1 (.t 40) (.t 41), none, []⟩,
       ⟨none, .store 1 (.t 47) (.t 46), none, []⟩]))
    (.reg [] [
      ⟨(some 38), .mv (.t 7), none, []⟩,
      ⟨(some 39), .bin .plain .add (.t 38) (.k (.int .i64 1)), none, []⟩,
      ⟨(some 7), .mv (.t 39), none, []⟩])))

abbrev s_law01_ShaStays_J0 (t0 t3 t6 : AV) (h : Heap) : St := ⟨[t0, .undef, .undef, t3, .undef, .undef, t6, .undef, .undef, .undef, .undef, .undef, .undef, .undef, .undef, .undef, .undef, .undef, .undef, .undef, .undef, .undef, .undef, .undef, .undef, .undef, .undef, .undef, .undef, .undef, .undef, .undef, .undef, .undef, .undef, .undef, .undef, .undef, .undef, .undef, .undef, .undef, .undef, .undef, .undef, .undef, .undef, .undef, .undef, .undef, .undef, .undef, .undef, .undef, .undef, .undef, .undef, .undef, .undef, .undef, .undef, .undef, .undef, .undef, .undef, .undef, .undef, .undef, .undef, .undef, .undef, .undef, .undef, .undef, .undef, .undef, .undef, .undef, .undef, .undef, .undef, .undef, .undef, .undef, .undef, .undef, .undef, .undef, .undef, .undef, .undef], h⟩
abbrev s_law01_ShaStays_K1 (t3 t6 t8 t9 t10 : AV) (h : Heap) : St := ⟨[.undef, .undef, .undef, t3, .undef, .undef, t6, .undef, t8, t9, t10, .undef, .undef, .undef, .undef, .undef, .undef, .undef, .undef, .undef, .undef, .undef, .undef, .undef, .undef, .undef, .undef, .undef, .undef, .undef, .undef, .undef, .undef, .undef, .undef, .undef, .undef, .undef, .undef, .undef, .undef, .undef, .undef, .undef, .undef, .undef, .undef, .undef, .undef, .undef, .undef, .undef, .undef, .undef, .undef, .undef, .undef, .undef, .undef, .undef, .undef, .undef, .undef, .undef, .undef, .undef, .undef, .undef, .undef, .undef, .undef, .undef, .undef, .undef, .undef, .undef, .undef, .undef, .undef, .undef, .undef, .undef, .undef, .undef, .undef, .undef, .undef, .undef, .undef, .undef, .undef], h⟩
def i_law01_ShaStays_b1 : IR :=
  (.seq
   (.seq
    (.reg [] [
      ⟨(some 50), .mv (.t 10), none, []⟩,
      ⟨(some 51), .bin .plain .lss (.t 50) (.k (.int .i64 64)), none, []⟩])
    (.cond (.t 51)
     .skip
     (.exit 2 i_law01_ShaStays_j2)))
   (.seq
    (.block 3 i_law01_ShaStays_j3
     (.reg [] [
       ⟨(some 54), .mv (.t 9), none, []⟩,
       ⟨(some 55), .mv (.t 10), none, []⟩,
       ⟨(some 56), .iap 64 1 (.t 3) (.t 55), none, []⟩,
       ⟨(some 57), .load false 1 (.t 56), none, []⟩,
       ⟨(some 58), .litd 1 1 [(.int .u8 0)] [(0, (.t 57))], none, []⟩,
       ⟨(some 59), .app 2 ty_uint8 1 1 (.t 54) (.t 58), none, []⟩,
       ⟨(some 9), .mv (.t 59), none, []⟩]))
    (.reg [] [
      ⟨(some 52), .mv (.t 10), none, []⟩,
      ⟨(some 53), .bin .plain .add (.t 52) (.k (.int .i64 1)), none, []⟩,
      ⟨(some 10), .mv (.t 53), none, []⟩])))

abbrev s_law01_ShaStays_J2 (t3 t6 t8 t9 : AV) (h : Heap) : St := ⟨[.undef, .undef, .undef, t3, .undef, .undef, t6, .undef, t8, t9, .undef, .undef, .undef, .undef, .undef, .undef, .undef, .undef, .undef, .undef, .undef, .undef, .undef, .undef, .undef, .undef, .undef, .undef, .undef, .undef, .undef, .undef, .undef, .undef, .undef, .undef, .undef, .undef, .undef, .undef, .undef, .undef, .undef, .undef, .undef, .undef, .undef, .undef, .undef, .undef, .undef, .undef, .undef, .undef, .undef, .undef, .undef, .undef, .undef, .undef, .undef, .undef, .undef, .undef, .undef, .undef, .undef, .undef, .undef, .undef, .undef, .undef, .undef, .undef, .undef, .undef, .undef, .undef, .undef, .undef, .undef, .undef, .undef, .undef, .undef, .undef, .undef, .undef, .undef, .undef, .undef], h⟩
abbrev s_law01_ShaStays_K2 (t3 t6 t8 t9 t11 t12 t13 : AV) (h : Heap) : St := ⟨[.undef, .undef, .undef, t3, .undef, .undef, t6, .undef, t8, t9, .undef, t11, t12, t13, .undef, .undef, .undef, .undef, .undef, .undef, .undef, .undef, .undef, .undef, .undef, .undef, .undef, .undef, .undef, .undef, .undef, .undef, .undef, .undef, .undef, .undef, .undef, .undef, .undef, .undef, .undef, .undef, .undef, .undef, .undef, .undef, .undef, .undef, .undef, .undef, .undef, .undef, .undef, .undef, .undef, .undef, .undef, .undef, .undef, .undef, .undef, .undef, .undef, .undef, .undef, .undef, .undef, .undef, .undef, .undef, .undef, .undef, .undef, .undef, .undef, .undef, .undef, .undef, .undef, .undef, .undef, .undef, .undef, .undef, .undef, .undef, .undef, .undef, .undef, .undef, .undef], h⟩
def i_law01_ShaStays_b2 : IR :=
  (.seq
   (.seq
    (.reg [] [
      ⟨(some 65), .mv (.t 13), none, []⟩,
      ⟨(some 66), .bin .plain .lss (.t 65) (.k (.int .i64 64)), none, []⟩])
    (.cond (.t 66)
     .skip
     (.exit 4 i_law01_ShaStays_j4)))
   (.seq
    (.block 5 i_law01_ShaStays_j5
     (.seq
      (.reg [] [
        ⟨(some 69), .cn (.t 9), none, []⟩,
        ⟨(some 70), .mv (.t 13), none, []⟩,
        ⟨(some 71), .ia 1 (.t 69) (.t 70), none, []⟩,
        ⟨(some 72), .load false 1 (.t 71), none, []⟩,
        ⟨(some 73), .mv (.t 13), none, []⟩,
        ⟨(some 74), .iap 64 1 (.t 3) (.t 73), none, []⟩,
        ⟨(some 75), .load false 1 (.t 74), none, []⟩,
        ⟨(some 76), .bin .plain .neq (.t 72) (.t 75), none, []⟩])
      (.cond (.t 76)
       (.seq
        (.reg [] [
          ⟨(some 4), .mv (.k (.bool false)), none, []⟩])
        (.ret i_law01_ShaStays_r))
       .skip)))
    (.reg [] [
      ⟨(some 67), .mv (.t 13), none, []⟩,
      ⟨(some 68), .bin .plain .add (.t 67) (.k (.int .i64 1)), none, []⟩,
      ⟨(some 13), .mv (.t 68), none, []⟩])))

abbrev s_law01_ShaStays_J4 (t6 t8 t11 t12 : AV) (h : Heap) : St := ⟨[.undef, .undef, .undef, .undef, .undef, .undef, t6, .undef, t8, .undef, .undef, t11, t12, .undef, .undef, .undef, .undef, .undef, .undef, .undef, .undef, .undef, .undef, .undef, .undef, .undef, .undef, .undef, .undef, .undef, .undef, .undef, .undef, .undef, .undef, .undef, .undef, .undef, .undef, .undef, .undef, .undef, .undef, .undef, .undef, .undef, .undef, .undef, .undef, .undef, .undef, .undef, .undef, .undef, .undef, .undef, .undef, .undef, .undef, .undef, .undef, .undef, .undef, .undef, .undef, .undef, .undef, .undef, .undef, .undef, .undef, .undef, .undef, .undef, .undef, .undef, .undef, .undef, .undef, .undef, .undef, .undef, .undef, .undef, .undef, .undef, .undef, .undef, .undef, .undef, .undef], h⟩
/-- heartwood/heartwoodlaw01.ShaStays -/
def i_law01_ShaStays : Ev.Fn := ⟨2, 91, 3,
  (.seq
   (.reg [] [
     ⟨(some 3), .box 0 64 (.t 1), none, []⟩,
     ⟨(some 4), .mv (.k (.bool false)), none, []⟩])
   (.seq
    (.seq
     (.reg [] [
       ⟨(some 14), .cn (.t 0), none, []⟩,
       ⟨(some 15), .len false (.t 14), none, []⟩,
       ⟨(some 16), .bin .plain .gtr (.t 15) (.k (.int .i64 20000)), none, []⟩])
     (.cond (.t 16)
      (.reg [] [
        ⟨(some 17), .cn (.t 0), none, []⟩,
        ⟨(some 18), .slice 1 (.t 17) none (some (.k (.int .i64 20000))) none, none, []⟩,
        ⟨(some 0), .cn (.t 18), none, []⟩])
      .skip))
    (.seq
     (.reg [] [
       ⟨(some 19), .lit 1 ty_uint8 1 0 [(.int .u8 0)] [], none, []⟩,
       ⟨(some 20), .cn (.t 0), none, []⟩,
       ⟨(some 21), .app 1 ty_uint8 1 1 (.t 19) (.t 20), none, []⟩,
       ⟨(some 5), .mv (.t 21), none, []⟩])
     (.seq
      (.reg [] [
        ⟨(some 22), .cn (.t 5), none, []⟩,
        ⟨(some 23), .qcall n_sha_Sum [(.t 22)] [], none, [22]⟩,
        ⟨(some 6), .cn (.t 23), none, []⟩])
      (.seq
       (.seq
        (.reg [] [
          ⟨(some 24), .cn (.t 5), none, []⟩,
          ⟨(some 25), .b2s (.t 24), none, []⟩,
          ⟨(some 26), .cn (.t 0), none, []⟩,
          ⟨(some 27), .b2s (.t 26), none, []⟩,
          ⟨(some 28), .bin .plain .neq (.t 25) (.t 27), none, []⟩,
          ⟨(some 29), .mv (.t 28), none, []⟩,
          ⟨(some 30), .cn (.t 6), (some (29, false)), []⟩,
          ⟨(some 31), .len false (.t 30), (some (29, false)), []⟩,
          ⟨(some 32), .bin .plain .neq (.t 31) (.k (.int .i64 32)), (some (29, false)), []⟩,
          ⟨(some 33), .pick (.t 29) (.k (.bool true)) (.t 32), none, []⟩])
        (.cond (.t 33)
         (.seq
          (.reg [] [
            ⟨(some 4), .mv (.k (.bool false)), none, []⟩])
          (.ret i_law01_ShaStays_r))
         .skip))
       (.seq
        (.seq
         (.reg [] [
           ⟨(some 7), .mv (.k (.int .i64 0)), none, []⟩])
         (.block 0 i_law01_ShaStays_j0
          (.loop i_law01_ShaStays_k0 i_law01_ShaStays_b0)))
        (.seq
         (.reg [] [
           ⟨(some 48), .cn (.t 0), none, []⟩,
           ⟨(some 49), .qcall n_sha_Sum [(.t 48)] [], none, []⟩,
           ⟨(some 8), .cn (.t 49), none, []⟩])
         (.seq
          (.reg [] [
            ⟨(some 9), .mv (.k (.slice none 0 0)), none, []⟩])
          (.seq
           (.seq
            (.reg [] [
              ⟨(some 10), .mv (.k (.int .i64 0)), none, []⟩])
            (.block 2 i_law01_ShaStays_j2
             (.loop i_law01_ShaStays_k1 i_law01_ShaStays_b1)))
           (.seq
            (.reg [] [
              ⟨(some 61), .cn (.t 9), none, []⟩,
              ⟨(some 62), .qcall n_sha_Words [(.t 61)] [], none, [61]⟩,
              ⟨(some 60), .mv (.t 62), none, []⟩,
              ⟨(some 63), .ext 0 (.t 60), none, []⟩,
              ⟨(some 64), .ext 1 (.t 60), none, []⟩,
              ⟨(some 11), .cn (.t 63), none, []⟩,
              ⟨(some 12), .mv (.t 64), none, []⟩])
            (.seq
             (.seq
              (.reg [] [
                ⟨(some 13), .mv (.k (.int .i64 0)), none, []⟩])
              (.block 4 i_law01_ShaStays_j4
               (.loop i_law01_ShaStays_k2 i_law01_ShaStays_b2)))
             (.seq
              (.reg [] [
                ⟨(some 77), .cn (.t 8), none, []⟩,
                ⟨(some 78), .b2s (.t 77), none, []⟩,
                ⟨(some 79), .cn (.t 6), none, []⟩,
                ⟨(some 80), .b2s (.t 79), none, []⟩,
                ⟨(some 81), .bin .plain .eql (.t 78) (.t 80), none, []⟩,
                ⟨(some 82), .mv (.t 81), none, []⟩,
                ⟨(some 83), .mv (.t 12), (some (82, true)), []⟩,
                ⟨(some 84), .bin (.iface ty_api_Code true) .eql (.t 83) (.k .nilIface), (some (82, true)), []⟩,
                ⟨(some 85), .pick (.t 82) (.t 84) (.k (.bool false)), none, []⟩,
                ⟨(some 86), .mv (.t 85), none, []⟩,
                ⟨(some 87), .cn (.t 11), (some (86, true)), []⟩,
                ⟨(some 88), .len false (.t 87), (some (86, true)), []⟩,
                ⟨(some 89), .bin .plain .eql (.t 88) (.k (.int .i64 64)), (some (86, true)), []⟩,
                ⟨(some 90), .pick (.t 86) (.t 89) (.k (.bool false)), none, []⟩,
                ⟨(some 4), .mv (.t 90), none, []⟩])
              (.ret i_law01_ShaStays_r))))))))))))),
  [.tmp 4], [], false, []⟩

def i_law01_ShaGoes_r : List Bool := [false, false, true, false, false, false, false, false, false, false, false, false, false, false, false, false, false, false, false, false, false, false, false, false, false, false, false, false, false, false, false, false, false, false, false, false, false, false, false, false, false, false, false, false, false, false, false, false, false, false, false, false, false, false, false, false, false, false, false, false, false, false, false, false, false, false, false, false, false, false, false, false, false, false, false, false, false, false, false, false, false]
def i_law01_ShaGoes_j1 : List Bool := [true, false, false, false, false, true, true, true, false, false, false, false, false, false, false, false, false, false, false, false, false, false, false, false, false, false, false, false, false, false, false, false, false, false, false, false, false, false, false, false, false, false, false, false, false, false, false, false, false, false, false, false, false, false, false, false, false, false, false, false, false, false, false, false, false, false, false, false, false, false, false, false, false, false, false, false, false, false, false, false, false]
def i_law01_ShaGoes_k0 : List Bool := [true, false, false, false, false, true, true, true, false, false, false, false, false, false, false, false, false, false, false, false, false, false, false, false, false, false, false, false, false, false, false, false, false, false, false, false, false, false, false, false, false, false, false, false, false, false, false, false, false, false, false, false, false, false, false, false, false, false, false, false, false, false, false, false, false, false, false, false, false, false, false, false, false, false, false, false, false, false, false, false, false]
def i_law01_ShaGoes_j0 : List Bool := [true, false, false, false, false, true, true, false, false, false, false, false, false, false, false, false, false, false, false, false, false, false, false, false, false, false, false, false, false, false, false, false, false, false, false, false, false, false, false, false, false, false, false, false, false, false, false, false, false, false, false, false, false, false, false, false, false, false, false, false, false, false, false, false, false, false, false, false, false, false, false, false, false, false, false, false, false, false, false, false, false]
def i_law01_ShaGoes_j3 : List Bool := [false, false, false, false, false, false, true, false, false, false, true, true, false, false, false, false, false, false, false, false, false, false, false, false, false, false, false, false, false, false, false, false, false, false, false, false, false, false, false, false, false, false, false, false, false, false, false, false, false, false, false, false, false, false, false, false, false, false, false, false, false, false, false, false, false, false, false, false, false, false, false, false, false, false, false, false, false, false, false, false, false]
def i_law01_ShaGoes_k1 : List Bool := [false, false, false, false, false, false, true, false, false, false, true, true, false, false, false, false, false, false, false, false, false, false, false, false, false, false, false, false, false, false, false, false, false, false, false, false, false, false, false, false, false, false, false, false, false, false, false, false, false, false, false, false, false, false, false, false, false, false, false, false, false, false, false, false, false, false, false, false, false, false, false, false, false, false, false, false, false, false, false, false, false]
def i_law01_ShaGoes_j2 : List Bool := [false, false, false, false, false, false, false, false, false, false, false, false, false, false, false, false, false, false, false, false, false, false, false, false, false, false, false, false, false, false, false, false, false, false, false, false, false, false, false, false, false, false, false, false, false, false, false, false, false, false, false, false, false, false, false, false, false, false, false, false, false, false, false, false, false, false, false, false, false, false, false, false, false, false, false, false, false, false, false, false, false]
abbrev s_law01_ShaGoes_R (t2 : AV) (h : Heap) : St := ⟨[.undef, .undef, t2, .undef, .undef, .undef, .undef, .undef, .undef, .undef, .undef, .undef, .undef, .undef, .undef, .undef, .undef, .undef, .undef, .undef, .undef, .undef, .undef, .undef, .undef, .undef, .undef, .undef, .undef, .undef, .undef, .undef, .undef, .undef, .undef, .undef, .undef, .undef, .undef, .undef, .undef, .undef, .undef, .undef, .undef, .undef, .undef, .undef, .undef, .undef, .undef, .undef, .undef, .undef, .undef, .undef, .undef, .undef, .undef, .undef, .undef, .undef, .undef, .undef, .undef, .undef, .undef, .undef, .undef, .undef, .undef, .undef, .undef, .undef, .undef, .undef, .undef, .undef, .undef, .undef, .undef], h⟩
abbrev s_law01_ShaGoes_K0 (t0 t5 t6 t7 : AV) (h : Heap) : St := ⟨[t0, .undef, .undef, .undef, .undef, t5, t6, t7, .undef, .undef, .undef, .undef, .undef, .undef, .undef, .undef, .undef, .undef, .undef, .undef, .undef, .undef, .undef, .undef, .undef, .undef, .undef, .undef, .undef, .undef, .undef, .undef, .undef, .undef, .undef, .undef, .undef, .undef, .undef, .undef, .undef, .undef, .undef, .undef, .undef, .undef, .undef, .undef, .undef, .undef, .undef, .undef, .undef, .undef, .undef, .undef, .undef, .undef, .undef, .undef, .undef, .undef, .undef, .undef, .undef, .undef, .undef, .undef, .undef, .undef, .undef, .undef, .undef, .undef, .undef, .undef, .undef, .undef, .undef, .undef, .undef], h⟩
def i_law01_ShaGoes_b0 : IR :=
  (.seq
   (.seq
    (.reg [] [
      ⟨(some 31), .mv (.t 7), none, []⟩,
      ⟨(some 32), .bin .plain .add (.t 31) (.k (.int .i64 64)), none, []⟩,
      ⟨(some 33), .cn (.t 5), none, []⟩,
      ⟨(some 34), .len false (.t 33), none, []⟩,
      ⟨(some 35), .bin .plain .leq (.t 32) (.t 34), none, []⟩])
    (.cond (.t 35)
     .skip
     (.exit 0 i_law01_ShaGoes_j0)))
   (.seq
    (.block 1 i_law01_ShaGoes_j1
     (.seq
      (.reg [(0, 10)] [
        ⟨(some 39), .load true 8 (.t 6), none, []⟩,
        ⟨(some 40), .cn (.t 5), none, []⟩,
        ⟨(some 41), .mv (.t 7), none, []⟩,
        ⟨(some 42), .mv (.t 7), none, []⟩,
        ⟨(some 43), .bin .plain .add (.t 42) (.k (.int .i64 64)), none, []⟩,
        ⟨(some 44), .slice 1 (.t 40) (some (.t 41)) (some (.t 43)) none, none, []⟩,
        ⟨(some 45), .qcall n_sha_Step [(.t 39), (.t 44)] [], none, []⟩,
        ⟨(some 38), .mv (.t 45), none, []⟩,
        ⟨(some 46), .ext 0 (.t 38), none, []⟩,
        ⟨(some 47), .ext 1 (.t 38), none, []⟩,
        ⟨(some 8), .new 2 [(.int .u32 0), (.int .u32 0), (.int .u32 0), (.int .u32 0), (.int .u32 0), (.int .u32 0), (.int .u32 0), (.int .u32 0)], none, []⟩,
        ⟨none, .store 8 (.t 8) (.t 46), none, []⟩,
        ⟨(some 9), .mv (.t 47), none, []⟩])
      (.seq
       (.seq
        (.reg [] [
          ⟨(some 48), .mv (.t 9), none, []⟩,
          ⟨(some 49), .bin (.iface ty_api_Code true) .neq (.t 48) (.k .nilIface), none, []⟩])
        (.cond (.t 49)
         (.seq
          (.reg [] [
            ⟨(some 2), .mv (.k (.bool false)), none, []⟩])
          (.ret i_law01_ShaGoes_r))
         .skip))
       (.reg [] [
         ⟨(some 50), .load true 8 (.t 8), none, []⟩,
         ⟨none, .store 8 (.t 6) (.t 50), none, []⟩]))))
    (.reg [] [
      ⟨(some 36), .mv (.t 7), none, []⟩,
      ⟨(some 37), .bin .plain .add (.t 36) (.k (.int .i64 64)), none, []⟩,
      ⟨(some 7), .mv (.t 37), none, []⟩])))

abbrev s_law01_ShaGoes_J0 (t0 t5 t6 : AV) (h : Heap) : St := ⟨[t0, .undef, .undef, .undef, .undef, t5, t6, .undef, .undef, .undef, .undef, .undef, .undef, .undef, .undef, .undef, .undef, .undef, .undef, .undef, .undef, .undef, .undef, .undef, .undef, .undef, .undef, .undef, .undef, .undef, .undef, .undef, .undef, .undef, .undef, .undef, .undef, .undef, .undef, .undef, .undef, .undef, .undef, .undef, .undef, .undef, .undef, .undef, .undef, .undef, .undef, .undef, .undef, .undef, .undef, .undef, .undef, .undef, .undef, .undef, .undef, .undef, .undef, .undef, .undef, .undef, .undef, .undef, .undef, .undef, .undef, .undef, .undef, .undef, .undef, .undef, .undef, .undef, .undef, .undef, .undef], h⟩
abbrev s_law01_ShaGoes_K1 (t6 t10 t11 : AV) (h : Heap) : St := ⟨[.undef, .undef, .undef, .undef, .undef, .undef, t6, .undef, .undef, .undef, t10, t11, .undef, .undef, .undef, .undef, .undef, .undef, .undef, .undef, .undef, .undef, .undef, .undef, .undef, .undef, .undef, .undef, .undef, .undef, .undef, .undef, .undef, .undef, .undef, .undef, .undef, .undef, .undef, .undef, .undef, .undef, .undef, .undef, .undef, .undef, .undef, .undef, .undef, .undef, .undef, .undef, .undef, .undef, .undef, .undef, .undef, .undef, .undef, .undef, .undef, .undef, .undef, .undef, .undef, .undef, .undef, .undef, .undef, .undef, .undef, .undef, .undef, .undef, .undef, .undef, .undef, .undef, .undef, .undef, .undef], h⟩
def i_law01_ShaGoes_b1 : IR :=
  (.seq
   (.seq
    (.reg [] [
      ⟨(some 62), .mv (.t 11), none, []⟩,
      ⟨(some 63), .bin .plain .lss (.t 62) (.k (.int .i64 32)), none, []⟩])
    (.cond (.t 63)
     .skip
     (.exit 2 i_law01_ShaGoes_j2)))
   (.seq
    (.block 3 i_law01_ShaGoes_j3
     (.seq
      (.reg [] [
        ⟨(some 66), .cn (.t 10), none, []⟩,
        ⟨(some 67), .mv (.t 11), none, []⟩,
        ⟨(some 68), .ia 1 (.t 66) (.t 67), none, []⟩,
        ⟨(some 69), .load false 1 (.t 68), none, []⟩,
        ⟨(some 70), .mv (.t 11), none, []⟩,
        ⟨(some 71), .bin .plain .quo (.t 70) (.k (.int .i64 4)), none, []⟩,
        ⟨(some 72), .iap 8 1 (.t 6) (.t 71), none, []⟩,
        ⟨(some 73), .load false 1 (.t 72), none, []⟩,
        ⟨(some 74), .mv (.t 11), none, []⟩,
        ⟨(some 75), .bin .plain .rem (.t 74) (.k (.int .i64 4)), none, []⟩,
        ⟨(some 76), .bin .plain .mul (.k (.int .i64 8)) (.t 75), none, []⟩,
        ⟨(some 77), .bin .plain .sub (.k (.int .i64 24)) (.t 76), none, []⟩,
        ⟨(some 78), .bin .plain .shr (.t 73) (.t 77), none, []⟩,
        ⟨(some 79), .conv .u8 (.t 78), none, []⟩,
        ⟨(some 80), .bin .plain .neq (.t 69) (.t 79), none, []⟩])
      (.cond (.t 80)
       (.seq
        (.reg [] [
          ⟨(some 2), .mv (.k (.bool false)), none, []⟩])
        (.ret i_law01_ShaGoes_r))
       .skip)))
    (.reg [] [
      ⟨(some 64), .mv (.t 11), none, []⟩,
      ⟨(some 65), .bin .plain .add (.t 64) (.k (.int .i64 1)), none, []⟩,
      ⟨(some 11), .mv (.t 65), none, []⟩])))

abbrev s_law01_ShaGoes_J2 (h : Heap) : St := ⟨[.undef, .undef, .undef, .undef, .undef, .undef, .undef, .undef, .undef, .undef, .undef, .undef, .undef, .undef, .undef, .undef, .undef, .undef, .undef, .undef, .undef, .undef, .undef, .undef, .undef, .undef, .undef, .undef, .undef, .undef, .undef, .undef, .undef, .undef, .undef, .undef, .undef, .undef, .undef, .undef, .undef, .undef, .undef, .undef, .undef, .undef, .undef, .undef, .undef, .undef, .undef, .undef, .undef, .undef, .undef, .undef, .undef, .undef, .undef, .undef, .undef, .undef, .undef, .undef, .undef, .undef, .undef, .undef, .undef, .undef, .undef, .undef, .undef, .undef, .undef, .undef, .undef, .undef, .undef, .undef, .undef], h⟩
/-- heartwood/heartwoodlaw01.ShaGoes -/
def i_law01_ShaGoes : Ev.Fn := ⟨1, 81, 3,
  (.seq
   (.reg [] [
     ⟨(some 2), .mv (.k (.bool false)), none, []⟩])
   (.seq
    (.seq
     (.reg [] [
       ⟨(some 12), .cn (.t 0), none, []⟩,
       ⟨(some 13), .len false (.t 12), none, []⟩,
       ⟨(some 14), .bin .plain .gtr (.t 13) (.k (.int .i64 20000)), none, []⟩])
     (.cond (.t 14)
      (.reg [] [
        ⟨(some 15), .cn (.t 0), none, []⟩,
        ⟨(some 16), .slice 1 (.t 15) none (some (.k (.int .i64 20000))) none, none, []⟩,
        ⟨(some 0), .cn (.t 16), none, []⟩])
      .skip))
    (.seq
     (.reg [] [
       ⟨(some 18), .cn (.t 0), none, []⟩,
       ⟨(some 19), .len false (.t 18), none, []⟩,
       ⟨(some 20), .qcall n_sha_Tail [(.t 19)] [], none, []⟩,
       ⟨(some 17), .mv (.t 20), none, []⟩,
       ⟨(some 21), .ext 0 (.t 17), none, []⟩,
       ⟨(some 22), .ext 1 (.t 17), none, []⟩,
       ⟨(some 3), .cn (.t 21), none, []⟩,
       ⟨(some 4), .mv (.t 22), none, []⟩])
     (.seq
      (.seq
       (.reg [] [
         ⟨(some 23), .mv (.t 4), none, []⟩,
         ⟨(some 24), .bin (.iface ty_api_Code true) .neq (.t 23) (.k .nilIface), none, []⟩])
       (.cond (.t 24)
        (.seq
         (.reg [] [
           ⟨(some 2), .mv (.k (.bool false)), none, []⟩])
         (.ret i_law01_ShaGoes_r))
        .skip))
      (.seq
       (.reg [] [
         ⟨(some 25), .lit 0 ty_uint8 1 0 [(.int .u8 0)] [], none, []⟩,
         ⟨(some 26), .cn (.t 0), none, []⟩,
         ⟨(some 27), .app 0 ty_uint8 1 1 (.t 25) (.t 26), none, []⟩,
         ⟨(some 28), .cn (.t 3), none, []⟩,
         ⟨(some 29), .app 0 ty_uint8 1 1 (.t 27) (.t 28), none, []⟩,
         ⟨(some 5), .cn (.t 29), none, [29]⟩])
       (.seq
        (.reg [] [
          ⟨(some 30), .qcall n_sha_First [] [], none, []⟩,
          ⟨(some 6), .new 1 [(.int .u32 0), (.int .u32 0), (.int .u32 0), (.int .u32 0), (.int .u32 0), (.int .u32 0), (.int .u32 0), (.int .u32 0)], none, []⟩,
          ⟨none, .store 8 (.t 6) (.t 30), none, []⟩])
        (.seq
         (.seq
          (.reg [] [
            ⟨(some 7), .mv (.k (.int .i64 0)), none, []⟩])
          (.block 0 i_law01_ShaGoes_j0
           (.loop i_law01_ShaGoes_k0 i_law01_ShaGoes_b0)))
         (.seq
          (.reg [] [
            ⟨(some 51), .cn (.t 0), none, []⟩,
            ⟨(some 52), .qcall n_sha_Sum [(.t 51)] [], none, []⟩,
            ⟨(some 10), .cn (.t 52), none, []⟩])
          (.seq
           (.seq
            (.reg [] [
              ⟨(some 53), .cn (.t 10), none, []⟩,
              ⟨(some 54), .len false (.t 53), none, []⟩,
              ⟨(some 55), .bin .plain .neq (.t 54) (.k (.int .i64 32)), none, []⟩,
              ⟨(some 56), .mv (.t 55), none, []⟩,
              ⟨(some 57), .cn (.t 5), (some (56, false)), []⟩,
              ⟨(some 58), .len false (.t 57), (some (56, false)), []⟩,
              ⟨(some 59), .bin .plain .rem (.t 58) (.k (.int .i64 64)), (some (56, false)), []⟩,
              ⟨(some 60), .bin .plain .neq (.t 59) (.k (.int .i64 0)), (some (56, false)), []⟩,
              ⟨(some 61), .pick (.t 56) (.k (.bool true)) (.t 60), none, []⟩])
            (.cond (.t 61)
             (.seq
              (.reg [] [
                ⟨(some 2), .mv (.k (.bool false)), none, []⟩])
              (.ret i_law01_ShaGoes_r))
             .skip))
           (.seq
            (.seq
             (.reg [] [
               ⟨(some 11), .mv (.k (.int .i64 0)), none, []⟩])
             (.block 2 i_law01_ShaGoes_j2
              (.loop i_law01_ShaGoes_k1 i_law01_ShaGoes_b1)))
            (.seq
             (.reg [] [
               ⟨(some 2), .mv (.k (.bool true)), none, []⟩])
             (.ret i_law01_ShaGoes_r)))))))))))),
  [.tmp 2], [], false, []⟩

def i_law03_DigestOf_r : List Bool := [false, false, false, false, true, false, false, false, false, false, false, false, false, false, false, false, false, false, false, false, false, false, false, false, false, false, false, false, false, false, false, false, false, false, false, false, false, false, false, false, false, false, false, false, false, false, false, false, false, false, false, false, false]
/-- heartwood/heartwoodlaw03.DigestOf -/
def i_law03_DigestOf : Ev.Fn := ⟨2, 53, 1,
  (.seq
   (.reg [] [
     ⟨(some 4), .mv (.k (.bool false)), none, []⟩])
   (.seq
    (.reg [] [
      ⟨(some 10), .qcall n_law03_up [] [], none, []⟩,
      ⟨(some 5), .mv (.t 10), none, []⟩])
    (.seq
     (.seq
      (.reg [] [
        ⟨(some 11), .cn (.t 1), none, []⟩,
        ⟨(some 12), .len false (.t 11), none, []⟩,
        ⟨(some 13), .bin .plain .gtr (.t 12) (.k (.int .i64 5000)), none, []⟩])
      (.cond (.t 13)
       (.reg [] [
         ⟨(some 14), .cn (.t 1), none, []⟩,
         ⟨(some 15), .slice 1 (.t 14) none (some (.k (.int .i64 5000))) none, none, []⟩,
         ⟨(some 1), .cn (.t 15), none, []⟩])
       .skip))
     (.seq
      (.reg [] [
        ⟨(some 17), .mv (.t 0), none, []⟩,
        ⟨(some 18), .cn (.t 1), none, []⟩,
        ⟨(some 19), .qcall n_digest_Of [(.t 17), (.t 18)] [], none, []⟩,
        ⟨(some 16), .mv (.t 19), none, []⟩,
        ⟨(some 20), .ext 0 (.t 16), none, []⟩,
        ⟨(some 21), .ext 1 (.t 16), none, []⟩,
        ⟨(some 6), .cn (.t 20), none, []⟩,
        ⟨(some 7), .mv (.t 21), none, []⟩])
      (.seq
       (.reg [] [
         ⟨(some 22), .mv (.t 0), none, []⟩,
         ⟨(some 23), .qcall n_law03_may [(.t 22)] [], none, []⟩,
         ⟨(some 8), .mv (.t 23), none, []⟩])
       (.seq
        (.seq
         (.reg [] [
           ⟨(some 24), .mv (.t 8), none, []⟩,
           ⟨(some 25), .un .not (.t 24), none, []⟩])
         (.cond (.t 25)
          (.seq
           (.reg [] [
             ⟨(some 26), .mv (.t 5), none, []⟩,
             ⟨(some 27), .mv (.t 26), none, []⟩,
             ⟨(some 28), .mv (.t 7), (some (27, true)), []⟩,
             ⟨(some 29), .mki ty_api_Code (.k (.int .i64 1)), (some (27, true)), []⟩,
             ⟨(some 30), .bin (.iface ty_api_Code false) .eql (.t 28) (.t 29), (some (27, true)), []⟩,
             ⟨(some 31), .pick (.t 27) (.t 30) (.k (.bool false)), none, []⟩,
             ⟨(some 32), .mv (.t 31), none, []⟩,
             ⟨(some 33), .cn (.t 6), (some (32, true)), []⟩,
             ⟨(some 34), .len false (.t 33), (some (32, true)), []⟩,
             ⟨(some 35), .bin .plain .eql (.t 34) (.k (.int .i64 0)), (some (32, true)), []⟩,
             ⟨(some 36), .pick (.t 32) (.t 35) (.k (.bool false)), none, []⟩,
             ⟨(some 4), .mv (.t 36), none, []⟩])
           (.ret i_law03_DigestOf_r))
          .skip))
        (.seq
         (.reg [] [
           ⟨(some 37), .qcall n_ref01_Made [] [], none, []⟩,
           ⟨(some 9), .new 0 [(.slice none 0 0), (.int .u32 0), (.int .u32 0), (.int .u32 0), (.int .u32 0), (.int .u32 0), (.int .u32 0), (.int .u32 0), (.int .u32 0)], none, []⟩,
           ⟨none, .store 9 (.t 9) (.t 37), none, []⟩])
         (.seq
          (.reg [] [
            ⟨(some 38), .mv (.t 5), none, []⟩,
            ⟨(some 39), .mv (.t 38), none, []⟩,
            ⟨(some 40), .mv (.t 7), (some (39, true)), []⟩,
            ⟨(some 41), .bin (.iface ty_api_Code true) .eql (.t 40) (.k .nilIface), (some (39, true)), []⟩,
            ⟨(some 42), .pick (.t 39) (.t 41) (.k (.bool false)), none, []⟩,
            ⟨(some 43), .mv (.t 42), none, []⟩,
            ⟨(some 44), .cn (.t 6), (some (43, true)), []⟩,
            ⟨(some 45), .b2s (.t 44), (some (43, true)), []⟩,
            ⟨(some 46), .load true 9 (.t 9), (some (43, true)), []⟩,
            ⟨(some 47), .mv (.t 0), (some (43, true)), []⟩,
            ⟨(some 48), .cn (.t 1), (some (43, true)), []⟩,
            ⟨(some 49), .qcall n_ref03_Of [(.t 46), (.t 47), (.t 48)] [], (some (43, true)), []⟩,
            ⟨(some 50), .b2s (.t 49), (some (43, true)), []⟩,
            ⟨(some 51), .bin .plain .eql (.t 45) (.t 50), (some (43, true)), []⟩,
            ⟨(some 52), .pick (.t 43) (.t 51) (.k (.bool false)), none, []⟩,
            ⟨(some 4), .mv (.t 52), none, []⟩])
          (.ret i_law03_DigestOf_r))))))))),
  [.tmp 4], [], false, []⟩

def i_law03_up_r : List Bool := [true, false, false, false, false, false, false, false, false, false, false, false, false, false, false, false, false, false, false, false, false, false]
/-- heartwood/heartwoodlaw03.up -/
def i_law03_up : Ev.Fn := ⟨0, 22, 1,
  (.seq
   (.reg [] [
     ⟨(some 0), .mv (.k (.bool false)), none, []⟩])
   (.seq
    (.reg [] [
      ⟨(some 4), .lit 0 ty_uint8 1 1 [(.int .u8 0)] [(0, (.k (.int .u8 97)))], none, []⟩,
      ⟨(some 5), .markb (.t 4), none, []⟩,
      ⟨(some 6), .litd 1 1 [(.int .u8 0)] [(0, (.k (.int .u8 255)))], none, []⟩,
      ⟨(some 7), .qcall n_digest_Pair [(.k (.int .i64 1)), (.t 5), (.t 6)] [], none, []⟩,
      ⟨(some 3), .mv (.t 7), none, []⟩,
      ⟨(some 8), .ext 0 (.t 3), none, []⟩,
      ⟨(some 9), .ext 1 (.t 3), none, []⟩,
      ⟨(some 1), .cn (.t 8), none, []⟩,
      ⟨(some 2), .mv (.t 9), none, []⟩])
    (.seq
     (.reg [] [
       ⟨(some 10), .mv (.t 2), none, []⟩,
       ⟨(some 11), .bin (.iface ty_api_Code true) .eql (.t 10) (.k .nilIface), none, []⟩,
       ⟨(some 12), .mv (.t 11), none, []⟩,
       ⟨(some 13), .cn (.t 1), (some (12, true)), []⟩,
       ⟨(some 14), .b2s (.t 13), (some (12, true)), []⟩,
       ⟨(some 15), .bin .plain .eql (.t 14) (.k (.string ⟨#[1, 1, 97, 255]⟩)), (some (12, true)), []⟩,
       ⟨(some 16), .pick (.t 12) (.t 15) (.k (.bool false)), none, []⟩,
       ⟨(some 17), .mv (.t 16), none, []⟩,
       ⟨(some 18), .qcall n_digest_None [] [], (some (17, true)), []⟩,
       ⟨(some 19), .b2s (.t 18), (some (17, true)), []⟩,
       ⟨(some 20), .bin .plain .eql (.t 19) (.k (.string ⟨#[3]⟩)), (some (17, true)), []⟩,
       ⟨(some 21), .pick (.t 17) (.t 20) (.k (.bool false)), none, []⟩,
       ⟨(some 0), .mv (.t 21), none, []⟩])
     (.ret i_law03_up_r)))),
  [.tmp 0], [], false, []⟩

def i_digest_Pair_r : List Bool := [false, false, false, false, false, false, true, true, false, false, false, false, false, false, false, false, false, false, false, false, false, false, false, false]
/-- heartwood/digest.Pair -/
def i_digest_Pair : Ev.Fn := ⟨3, 24, 0,
  (.seq
   (.reg [] [
     ⟨(some 6), .cn (.k (.slice none 0 0)), none, []⟩,
     ⟨(some 7), .mv (.k .nilIface), none, []⟩])
   (.seq
    (.seq
     (.reg [] [
       ⟨(some 8), .mv (.t 0), none, []⟩,
       ⟨(some 9), .qcall n_digest_width [(.t 8)] [], none, []⟩,
       ⟨(some 10), .un .not (.t 9), none, []⟩,
       ⟨(some 11), .mv (.t 10), none, []⟩,
       ⟨(some 12), .cn (.t 2), (some (11, false)), []⟩,
       ⟨(some 13), .len false (.t 12), (some (11, false)), []⟩,
       ⟨(some 14), .mv (.t 0), (some (11, false)), []⟩,
       ⟨(some 15), .bin .plain .neq (.t 13) (.t 14), (some (11, false)), []⟩,
       ⟨(some 16), .pick (.t 11) (.k (.bool true)) (.t 15), none, []⟩])
     (.cond (.t 16)
      (.seq
       (.reg [] [
         ⟨(some 17), .mki ty_api_Code (.k (.int .i64 1)), none, []⟩,
         ⟨(some 6), .cn (.k (.slice none 0 0)), none, []⟩,
         ⟨(some 7), .mv (.t 17), none, []⟩])
       (.ret i_digest_Pair_r))
      .skip))
    (.seq
     (.reg [] [
       ⟨(some 18), .litd 1 1 [(.int .u8 0)] [(0, (.k (.int .u8 1)))], none, []⟩,
       ⟨(some 19), .cn (.t 1), none, []⟩,
       ⟨(some 20), .qcall n_coder_Bytes [(.t 19)] [], none, []⟩,
       ⟨(some 21), .cn (.t 2), none, []⟩,
       ⟨(some 22), .litd 1 3 [(.slice none 0 0)] [(0, (.t 18)), (1, (.t 20)), (2, (.t 21))], none, []⟩,
       ⟨(some 23), .qcall n_slices_Concat_sl_byte_byte [(.t 22)] [], none, []⟩,
       ⟨(some 6), .cn (.t 23), none, []⟩,
       ⟨(some 7), .mv (.k .nilIface), none, []⟩])
     (.ret i_digest_Pair_r)))),
  [.tmp 6, .tmp 7], [], false, []⟩

def i_digest_width_r : List Bool := [false, false, true, false, false, false, false, false, false]
/-- heartwood/digest.width -/
def i_digest_width : Ev.Fn := ⟨1, 9, 0,
  (.seq
   (.reg [] [
     ⟨(some 2), .mv (.k (.bool false)), none, []⟩])
   (.seq
    (.reg [] [
      ⟨(some 3), .mv (.t 0), none, []⟩,
      ⟨(some 4), .bin .plain .geq (.t 3) (.k (.int .i64 1)), none, []⟩,
      ⟨(some 5), .mv (.t 4), none, []⟩,
      ⟨(some 6), .mv (.t 0), (some (5, true)), []⟩,
      ⟨(some 7), .bin .plain .leq (.t 6) (.k (.int .i64 32)), (some (5, true)), []⟩,
      ⟨(some 8), .pick (.t 5) (.t 7) (.k (.bool false)), none, []⟩,
      ⟨(some 2), .mv (.t 8), none, []⟩])
    (.ret i_digest_width_r))),
  [.tmp 2], [], false, []⟩

def i_coder_Bytes_r : List Bool := [false, false, true, false, false, false, false, false, false]
/-- heartwood/coder.Bytes -/
def i_coder_Bytes : Ev.Fn := ⟨1, 9, 2,
  (.seq
   (.reg [] [
     ⟨(some 2), .cn (.k (.slice none 0 0)), none, []⟩])
   (.seq
    (.reg [] [
      ⟨(some 3), .cn (.t 0), none, []⟩,
      ⟨(some 4), .len false (.t 3), none, []⟩,
      ⟨(some 5), .conv .u64 (.t 4), none, []⟩,
      ⟨(some 6), .qcall n_coder_Number [(.t 5)] [0], none, []⟩,
      ⟨(some 7), .cn (.t 0), none, []⟩,
      ⟨(some 8), .app 1 ty_uint8 1 1 (.t 6) (.t 7), none, []⟩,
      ⟨(some 2), .cn (.t 8), none, [8]⟩])
    (.ret i_coder_Bytes_r))),
  [.tmp 2], [], false, []⟩

def i_coder_Number_r : List Bool := [false, false, true, false, false, false, false, false, false, false, false, false, false, false, false, false, false, false, false, false, false, false, false, false, false, false, false, false, false, false, false, false, false, false, false, false, false, false, false, false, false, false, false]
def i_coder_Number_j1 : List Bool := [true, false, false, true, false, false, false, false, false, false, false, false, false, false, false, false, false, false, false, false, false, false, false, false, false, false, false, false, false, false, false, false, false, false, false, false, false, false, false, false, false, false, false]
def i_coder_Number_k0 : List Bool := [true, false, false, true, false, false, false, false, false, false, false, false, false, false, false, false, false, false, false, false, false, false, false, false, false, false, false, false, false, false, false, false, false, false, false, false, false, false, false, false, false, false, false]
def i_coder_Number_j0 : List Bool := [true, false, false, true, false, false, false, false, false, false, false, false, false, false, false, false, false, false, false, false, false, false, false, false, false, false, false, false, false, false, false, false, false, false, false, false, false, false, false, false, false, false, false]
def i_coder_Number_j3 : List Bool := [true, false, false, true, true, false, false, false, false, false, false, false, false, false, false, false, false, false, false, false, false, false, false, false, false, false, true, true, false, false, false, false, false, false, false, false, false, false, false, false, false, false, false]
def i_coder_Number_k1 : List Bool := [true, false, false, true, true, false, false, false, false, false, false, false, false, false, false, false, false, false, false, false, false, false, false, false, false, false, true, true, false, false, false, false, false, false, false, false, false, false, false, false, false, false, false]
def i_coder_Number_j2 : List Bool := [false, false, false, false, true, false, false, false, false, false, false, false, false, false, false, false, false, false, false, false, false, false, false, false, false, false, false, false, false, false, false, false, false, false, false, false, false, false, false, false, false, false, false]
abbrev s_coder_Number_R (t2 : AV) (h : Heap) : St := ⟨[.undef, .undef, t2, .undef, .undef, .undef, .undef, .undef, .undef, .undef, .undef, .undef, .undef, .undef, .undef, .undef, .undef, .undef, .undef, .undef, .undef, .undef, .undef, .undef, .undef, .undef, .undef, .undef, .undef, .undef, .undef, .undef, .undef, .undef, .undef, .undef, .undef, .undef, .undef, .undef, .undef, .undef, .undef], h⟩
abbrev s_coder_Number_K0 (t0 t3 : AV) (h : Heap) : St := ⟨[t0, .undef, .undef, t3, .undef, .undef, .undef, .undef, .undef, .undef, .undef, .undef, .undef, .undef, .undef, .undef, .undef, .undef, .undef, .undef, .undef, .undef, .undef, .undef, .undef, .undef, .undef, .undef, .undef, .undef, .undef, .undef, .undef, .undef, .undef, .undef, .undef, .undef, .undef, .undef, .undef, .undef, .undef], h⟩
def i_coder_Number_b0 : IR :=
  (.seq
   (.seq
    (.reg [] [
      ⟨(some 11), .mv (.t 3), none, []⟩,
      ⟨(some 12), .bin .plain .lss (.t 11) (.k (.int .i64 8)), none, []⟩,
      ⟨(some 13), .mv (.t 12), none, []⟩,
      ⟨(some 14), .mv (.t 0), (some (13, true)), []⟩,
      ⟨(some 15), .mv (.t 3), (some (13, true)), []⟩,
      ⟨(some 16), .bin .plain .mul (.k (.int .i64 8)) (.t 15), (some (13, true)), []⟩,
      ⟨(some 17), .bin .plain .shr (.t 14) (.t 16), (some (13, true)), []⟩,
      ⟨(some 18), .bin .plain .gtr (.t 17) (.k (.int .u64 0)), (some (13, true)), []⟩,
      ⟨(some 19), .pick (.t 13) (.t 18) (.k (.bool false)), none, []⟩])
    (.cond (.t 19)
     .skip
     (.exit 0 i_coder_Number_j0)))
   (.block 1 i_coder_Number_j1
    (.reg [] [
      ⟨(some 20), .mv (.t 3), none, []⟩,
      ⟨(some 21), .bin .plain .add (.t 20) (.k (.int .i64 1)), none, []⟩,
      ⟨(some 3), .mv (.t 21), none, []⟩])))

abbrev s_coder_Number_J0 (t0 t3 : AV) (h : Heap) : St := ⟨[t0, .undef, .undef, t3, .undef, .undef, .undef, .undef, .undef, .undef, .undef, .undef, .undef, .undef, .undef, .undef, .undef, .undef, .undef, .undef, .undef, .undef, .undef, .undef, .undef, .undef, .undef, .undef, .undef, .undef, .undef, .undef, .undef, .undef, .undef, .undef, .undef, .undef, .undef, .undef, .undef, .undef, .undef], h⟩
abbrev s_coder_Number_K1 (t0 t3 t4 t26 t27 : AV) (h : Heap) : St := ⟨[t0, .undef, .undef, t3, t4, .undef, .undef, .undef, .undef, .undef, .undef, .undef, .undef, .undef, .undef, .undef, .undef, .undef, .undef, .undef, .undef, .undef, .undef, .undef, .undef, .undef, t26, t27, .undef, .undef, .undef, .undef, .undef, .undef, .undef, .undef, .undef, .undef, .undef, .undef, .undef, .undef, .undef], h⟩
def i_coder_Number_b1 : IR :=
  (.seq
   (.reg [] [
     ⟨(some 28), .bin .plain .lss (.t 27) (.t 26), none, []⟩])
   (.seq
    (.cond (.t 28)
     .skip
     (.exit 2 i_coder_Number_j2))
    (.seq
     (.block 3 i_coder_Number_j3
      (.seq
       (.reg [] [
         ⟨(some 29), .mv (.t 27), none, []⟩,
         ⟨(some 5), .mv (.t 29), none, []⟩])
       (.reg [] [
         ⟨(some 30), .mv (.t 4), none, []⟩,
         ⟨(some 31), .mv (.t 0), none, []⟩,
         ⟨(some 32), .mv (.t 3), none, []⟩,
         ⟨(some 33), .bin .plain .sub (.t 32) (.k (.int .i64 1)), none, []⟩,
         ⟨(some 34), .mv (.t 5), none, []⟩,
         ⟨(some 35), .bin .plain .sub (.t 33) (.t 34), none, []⟩,
         ⟨(some 36), .bin .plain .mul (.k (.int .i64 8)) (.t 35), none, []⟩,
         ⟨(some 37), .bin .plain .shr (.t 31) (.t 36), none, []⟩,
         ⟨(some 38), .conv .u8 (.t 37), none, []⟩,
         ⟨(some 39), .litd 1 1 [(.int .u8 0)] [(0, (.t 38))], none, []⟩,
         ⟨(some 40), .app 0 ty_uint8 1 1 (.t 30) (.t 39), none, []⟩,
         ⟨(some 4), .mv (.t 40), none, []⟩])))
     (.reg [] [
       ⟨(some 41), .bin .plain .add (.t 27) (.k (.int .i64 1)), none, []⟩,
       ⟨(some 27), .mv (.t 41), none, []⟩]))))

abbrev s_coder_Number_J2 (t4 : AV) (h : Heap) : St := ⟨[.undef, .undef, .undef, .undef, t4, .undef, .undef, .undef, .undef, .undef, .undef, .undef, .undef, .undef, .undef, .undef, .undef, .undef, .undef, .undef, .undef, .undef, .undef, .undef, .undef, .undef, .undef, .undef, .undef, .undef, .undef, .undef, .undef, .undef, .undef, .undef, .undef, .undef, .undef, .undef, .undef, .undef, .undef], h⟩
/-- heartwood/coder.Number -/
def i_coder_Number : Ev.Fn := ⟨1, 43, 1,
  (.seq
   (.reg [] [
     ⟨(some 2), .mv (.k (.slice none 0 0)), none, []⟩])
   (.seq
    (.seq
     (.reg [] [
       ⟨(some 6), .mv (.t 0), none, []⟩,
       ⟨(some 7), .bin .plain .leq (.t 6) (.k (.int .u64 247)), none, []⟩])
     (.cond (.t 7)
      (.seq
       (.reg [] [
         ⟨(some 8), .mv (.t 0), none, []⟩,
         ⟨(some 9), .conv .u8 (.t 8), none, []⟩,
         ⟨(some 10), .lit 0 ty_uint8 1 1 [(.int .u8 0)] [(0, (.t 9))], none, []⟩,
         ⟨(some 2), .mv (.t 10), none, []⟩])
       (.ret i_coder_Number_r))
      .skip))
    (.seq
     (.reg [] [
       ⟨(some 3), .mv (.k (.int .i64 1)), none, []⟩])
     (.seq
      (.block 0 i_coder_Number_j0
       (.loop i_coder_Number_k0 i_coder_Number_b0))
      (.seq
       (.reg [] [
         ⟨(some 22), .mv (.t 3), none, []⟩,
         ⟨(some 23), .bin .plain .add (.k (.int .i64 247)) (.t 22), none, []⟩,
         ⟨(some 24), .conv .u8 (.t 23), none, []⟩,
         ⟨(some 25), .lit 0 ty_uint8 1 1 [(.int .u8 0)] [(0, (.t 24))], none, []⟩,
         ⟨(some 4), .mv (.t 25), none, []⟩])
       (.seq
        (.seq
         (.reg [] [
           ⟨(some 26), .mv (.t 3), none, []⟩,
           ⟨(some 27), .mv (.k (.int .i64 0)), none, []⟩])
         (.block 2 i_coder_Number_j2
          (.loop i_coder_Number_k1 i_coder_Number_b1)))
        (.seq
         (.reg [] [
           ⟨(some 42), .mv (.t 4), none, []⟩,
           ⟨(some 2), .mv (.t 42), none, []⟩])
         (.ret i_coder_Number_r)))))))),
  [.tmp 2], [true], false, []⟩

def i_slices_Concat_sl_byte_byte_r : List Bool := [false, false, true, false, false, false, false, false, false, false, false, false, false, false, false, false, false, false, false, false, false, false, false, false, false, false, false, false, false, false, false, false, false, false, false, false]
def i_slices_Concat_sl_byte_byte_j1 : List Bool := [true, false, false, true, false, false, false, false, false, true, true, true, false, false, false, false, false, false, false, false, false, false, false, false, false, false, false, false, false, false, false, false, false, false, false, false]
def i_slices_Concat_sl_byte_byte_k0 : List Bool := [true, false, false, true, false, false, false, false, false, true, true, true, false, false, false, false, false, false, false, false, false, false, false, false, false, false, false, false, false, false, false, false, false, false, false, false]
def i_slices_Concat_sl_byte_byte_j0 : List Bool := [true, false, false, true, false, false, false, false, false, false, false, false, false, false, false, false, false, false, false, false, false, false, false, false, false, false, false, false, false, false, false, false, false, false, false, false]
def i_slices_Concat_sl_byte_byte_j3 : List Bool := [false, false, false, false, false, false, true, false, false, false, false, false, false, false, false, false, false, false, false, false, false, false, false, false, false, true, true, true, false, false, false, false, false, false, false, false]
def i_slices_Concat_sl_byte_byte_k1 : List Bool := [false, false, false, false, false, false, true, false, false, false, false, false, false, false, false, false, false, false, false, false, false, false, false, false, false, true, true, true, false, false, false, false, false, false, false, false]
def i_slices_Concat_sl_byte_byte_j2 : List Bool := [false, false, false, false, false, false, true, false, false, false, false, false, false, false, false, false, false, false, false, false, false, false, false, false, false, false, false, false, false, false, false, false, false, false, false, false]
abbrev s_slices_Concat_sl_byte_byte_R (t2 : AV) (h : Heap) : St := ⟨[.undef, .undef, t2, .undef, .undef, .undef, .undef, .undef, .undef, .undef, .undef, .undef, .undef, .undef, .undef, .undef, .undef, .undef, .undef, .undef, .undef, .undef, .undef, .undef, .undef, .undef, .undef, .undef, .undef, .undef, .undef, .undef, .undef, .undef, .undef, .undef], h⟩
abbrev s_slices_Concat_sl_byte_byte_K0 (t0 t3 t9 t10 t11 : AV) (h : Heap) : St := ⟨[t0, .undef, .undef, t3, .undef, .undef, .undef, .undef, .undef, t9, t10, t11, .undef, .undef, .undef, .undef, .undef, .undef, .undef, .undef, .undef, .undef, .undef, .undef, .undef, .undef, .undef, .undef, .undef, .undef, .undef, .undef, .undef, .undef, .undef, .undef], h⟩
def i_slices_Concat_sl_byte_byte_b0 : IR :=
  (.seq
   (.reg [] [
     ⟨(some 12), .bin .plain .lss (.t 11) (.t 10), none, []⟩])
   (.seq
    (.cond (.t 12)
     .skip
     (.exit 0 i_slices_Concat_sl_byte_byte_j0))
    (.seq
     (.block 1 i_slices_Concat_sl_byte_byte_j1
      (.seq
       (.reg [] [
         ⟨(some 13), .ia 1 (.t 9) (.t 11), none, []⟩,
         ⟨(some 14), .load false 1 (.t 13), none, []⟩,
         ⟨(some 5), .cn (.t 14), none, []⟩])
       (.seq
        (.reg [] [
          ⟨(some 15), .mv (.t 3), none, []⟩,
          ⟨(some 16), .cn (.t 5), none, []⟩,
          ⟨(some 17), .len false (.t 16), none, []⟩,
          ⟨(some 18), .bin .plain .add (.t 15) (.t 17), none, []⟩,
          ⟨(some 3), .mv (.t 18), none, []⟩])
        (.seq
         (.reg [] [
           ⟨(some 19), .mv (.t 3), none, []⟩,
           ⟨(some 20), .bin .plain .lss (.t 19) (.k (.int .i64 0)), none, []⟩])
         (.cond (.t 20)
          (.reg [] [
            ⟨(some 21), .mki ty_string (.k (.string ⟨#[108, 101, 110, 32, 111, 117, 116, 32, 111, 102, 32, 114, 97, 110, 103, 101]⟩)), none, []⟩,
            ⟨none, .trap, none, []⟩])
          .skip)))))
     (.reg [] [
       ⟨(some 22), .bin .plain .add (.t 11) (.k (.int .i64 1)), none, []⟩,
       ⟨(some 11), .mv (.t 22), none, []⟩]))))

abbrev s_slices_Concat_sl_byte_byte_J0 (t0 t3 : AV) (h : Heap) : St := ⟨[t0, .undef, .undef, t3, .undef, .undef, .undef, .undef, .undef, .undef, .undef, .undef, .undef, .undef, .undef, .undef, .undef, .undef, .undef, .undef, .undef, .undef, .undef, .undef, .undef, .undef, .undef, .undef, .undef, .undef, .undef, .undef, .undef, .undef, .undef, .undef], h⟩
abbrev s_slices_Concat_sl_byte_byte_K1 (t6 t25 t26 t27 : AV) (h : Heap) : St := ⟨[.undef, .undef, .undef, .undef, .undef, .undef, t6, .undef, .undef, .undef, .undef, .undef, .undef, .undef, .undef, .undef, .undef, .undef, .undef, .undef, .undef, .undef, .undef, .undef, .undef, t25, t26, t27, .undef, .undef, .undef, .undef, .undef, .undef, .undef, .undef], h⟩
def i_slices_Concat_sl_byte_byte_b1 : IR :=
  (.seq
   (.reg [] [
     ⟨(some 28), .bin .plain .lss (.t 27) (.t 26), none, []⟩])
   (.seq
    (.cond (.t 28)
     .skip
     (.exit 2 i_slices_Concat_sl_byte_byte_j2))
    (.seq
     (.block 3 i_slices_Concat_sl_byte_byte_j3
      (.seq
       (.reg [] [
         ⟨(some 29), .ia 1 (.t 25) (.t 27), none, []⟩,
         ⟨(some 30), .load false 1 (.t 29), none, []⟩,
         ⟨(some 8), .cn (.t 30), none, []⟩])
       (.reg [] [
         ⟨(some 31), .mv (.t 6), none, []⟩,
         ⟨(some 32), .cn (.t 8), none, []⟩,
         ⟨(some 33), .app 1 ty_uint8 1 1 (.t 31) (.t 32), none, []⟩,
         ⟨(some 6), .mv (.t 33), none, []⟩])))
     (.reg [] [
       ⟨(some 34), .bin .plain .add (.t 27) (.k (.int .i64 1)), none, []⟩,
       ⟨(some 27), .mv (.t 34), none, []⟩]))))

abbrev s_slices_Concat_sl_byte_byte_J2 (t6 : AV) (h : Heap) : St := ⟨[.undef, .undef, .undef, .undef, .undef, .undef, t6, .undef, .undef, .undef, .undef, .undef, .undef, .undef, .undef, .undef, .undef, .undef, .undef, .undef, .undef, .undef, .undef, .undef, .undef, .undef, .undef, .undef, .undef, .undef, .undef, .undef, .undef, .undef, .undef, .undef], h⟩
/-- slices.Concat[[]byte,byte] -/
def i_slices_Concat_sl_byte_byte : Ev.Fn := ⟨1, 36, 2,
  (.seq
   (.reg [] [
     ⟨(some 2), .cn (.k (.slice none 0 0)), none, []⟩])
   (.seq
    (.reg [] [
      ⟨(some 3), .mv (.k (.int .i64 0)), none, []⟩])
    (.seq
     (.seq
      (.reg [] [
        ⟨(some 9), .cn (.t 0), none, []⟩,
        ⟨(some 10), .len false (.t 9), none, []⟩,
        ⟨(some 11), .mv (.k (.int .i64 0)), none, []⟩])
      (.block 0 i_slices_Concat_sl_byte_byte_j0
       (.loop i_slices_Concat_sl_byte_byte_k0 i_slices_Concat_sl_byte_byte_b0)))
     (.seq
      (.reg [] [
        ⟨(some 23), .mv (.t 3), none, []⟩,
        ⟨(some 24), .qcall n_slices_Grow_sl_byte_byte [(.k (.slice none 0 0)), (.t 23)] [0], none, []⟩,
        ⟨(some 6), .mv (.t 24), none, []⟩])
      (.seq
       (.seq
        (.reg [] [
          ⟨(some 25), .cn (.t 0), none, []⟩,
          ⟨(some 26), .len false (.t 25), none, []⟩,
          ⟨(some 27), .mv (.k (.int .i64 0)), none, []⟩])
        (.block 2 i_slices_Concat_sl_byte_byte_j2
         (.loop i_slices_Concat_sl_byte_byte_k1 i_slices_Concat_sl_byte_byte_b1)))
       (.seq
        (.reg [] [
          ⟨(some 35), .cn (.t 6), none, [6]⟩,
          ⟨(some 2), .cn (.t 35), none, [35]⟩])
        (.ret i_slices_Concat_sl_byte_byte_r))))))),
  [.tmp 2], [], false, []⟩

def i_slices_Grow_sl_byte_byte_r : List Bool := [false, false, false, false, true, false, false, false, false, false, false, false, false, false, false, false, false, false, false, false, false, false, false, false, false, false, false]
/-- slices.Grow[[]byte,byte] -/
def i_slices_Grow_sl_byte_byte : Ev.Fn := ⟨2, 27, 3,
  (.seq
   (.reg [] [
     ⟨(some 4), .mv (.k (.slice none 0 0)), none, []⟩])
   (.seq
    (.seq
     (.reg [] [
       ⟨(some 5), .mv (.t 1), none, []⟩,
       ⟨(some 6), .bin .plain .lss (.t 5) (.k (.int .i64 0)), none, []⟩])
     (.cond (.t 6)
      (.reg [] [
        ⟨(some 7), .mki ty_string (.k (.string ⟨#[99, 97, 110, 110, 111, 116, 32, 98, 101, 32, 110, 101, 103, 97, 116, 105, 118, 101]⟩)), none, []⟩,
        ⟨none, .trap, none, []⟩])
      .skip))
    (.seq
     (.seq
      (.reg [] [
        ⟨(some 8), .mv (.t 1), none, []⟩,
        ⟨(some 9), .mv (.t 0), none, []⟩,
        ⟨(some 10), .capn (.t 9), none, []⟩,
        ⟨(some 11), .cn (.t 0), none, []⟩,
        ⟨(some 12), .len false (.t 11), none, []⟩,
        ⟨(some 13), .bin .plain .sub (.t 10) (.t 12), none, []⟩,
        ⟨(some 14), .bin .plain .sub (.t 8) (.t 13), none, []⟩,
        ⟨(some 1), .mv (.t 14), none, []⟩])
      (.seq
       (.reg [] [
         ⟨(some 15), .mv (.t 1), none, []⟩,
         ⟨(some 16), .bin .plain .gtr (.t 15) (.k (.int .i64 0)), none, []⟩])
       (.cond (.t 16)
        (.reg [] [
          ⟨(some 17), .mv (.t 0), none, []⟩,
          ⟨(some 18), .mv (.t 0), none, []⟩,
          ⟨(some 19), .capn (.t 18), none, []⟩,
          ⟨(some 20), .trunc 0 (.t 17) (.t 19), none, []⟩,
          ⟨(some 21), .mv (.t 1), none, []⟩,
          ⟨(some 22), .appz 1 ty_uint8 1 1 [(.int .u8 0)] (.t 20) (.t 21), none, []⟩,
          ⟨(some 23), .cn (.t 0), none, [0]⟩,
          ⟨(some 24), .len false (.t 23), none, []⟩,
          ⟨(some 25), .trunc 2 (.t 22) (.t 24), none, []⟩,
          ⟨(some 0), .mv (.t 25), none, []⟩])
        .skip)))
     (.seq
      (.reg [] [
        ⟨(some 26), .mv (.t 0), none, []⟩,
        ⟨(some 4), .mv (.t 26), none, []⟩])
      (.ret i_slices_Grow_sl_byte_byte_r))))),
  [.tmp 4], [true], false, [true, false]⟩

def i_digest_None_r : List Bool := [true, false]
/-- heartwood/digest.None -/
def i_digest_None : Ev.Fn := ⟨0, 2, 0,
  (.seq
   (.reg [] [
     ⟨(some 0), .cn (.k (.slice none 0 0)), none, []⟩])
   (.seq
    (.reg [] [
      ⟨(some 1), .litd 1 1 [(.int .u8 0)] [(0, (.k (.int .u8 3)))], none, []⟩,
      ⟨(some 0), .cn (.t 1), none, []⟩])
    (.ret i_digest_None_r))),
  [.tmp 0], [], false, []⟩

def i_digest_Of_r : List Bool := [false, false, false, false, true, true, false, false, false, false, false, false, false, false, false]
/-- heartwood/digest.Of -/
def i_digest_Of : Ev.Fn := ⟨2, 15, 0,
  (.seq
   (.reg [] [
     ⟨(some 4), .cn (.k (.slice none 0 0)), none, []⟩,
     ⟨(some 5), .mv (.k .nilIface), none, []⟩])
   (.seq
    (.seq
     (.reg [] [
       ⟨(some 6), .mv (.t 0), none, []⟩,
       ⟨(some 7), .qcall n_digest_width [(.t 6)] [], none, []⟩,
       ⟨(some 8), .un .not (.t 7), none, []⟩])
     (.cond (.t 8)
      (.seq
       (.reg [] [
         ⟨(some 9), .mki ty_api_Code (.k (.int .i64 1)), none, []⟩,
         ⟨(some 4), .cn (.k (.slice none 0 0)), none, []⟩,
         ⟨(some 5), .mv (.t 9), none, []⟩])
       (.ret i_digest_Of_r))
      .skip))
    (.seq
     (.reg [] [
       ⟨(some 10), .cn (.t 1), none, []⟩,
       ⟨(some 11), .qcall n_sha_Sum [(.t 10)] [], none, []⟩,
       ⟨(some 12), .mv (.t 0), none, []⟩,
       ⟨(some 13), .slice 1 (.t 11) none (some (.t 12)) none, none, []⟩,
       ⟨(some 14), .qcall n_slices_Clone_sl_byte_byte [(.t 13)] [], none, []⟩,
       ⟨(some 4), .cn (.t 14), none, []⟩,
       ⟨(some 5), .mv (.k .nilIface), none, []⟩])
     (.ret i_digest_Of_r)))),
  [.tmp 4, .tmp 5], [], false, []⟩

def i_slices_Clone_sl_byte_byte_r : List Bool := [false, false, true, false, false, false, false, false]
/-- slices.Clone[[]byte,byte] -/
def i_slices_Clone_sl_byte_byte : Ev.Fn := ⟨1, 8, 1,
  (.seq
   (.reg [] [
     ⟨(some 2), .cn (.k (.slice none 0 0)), none, []⟩])
   (.seq
    (.seq
     (.reg [] [
       ⟨(some 3), .mv (.t 0), none, []⟩,
       ⟨(some 4), .bin .slice .eql (.t 3) (.k (.slice none 0 0)), none, []⟩])
     (.cond (.t 4)
      (.seq
       (.reg [] [
         ⟨(some 2), .cn (.k (.slice none 0 0)), none, []⟩])
       (.ret i_slices_Clone_sl_byte_byte_r))
      .skip))
    (.seq
     (.reg [] [
       ⟨(some 5), .lit 0 ty_uint8 1 0 [(.int .u8 0)] [], none, []⟩,
       ⟨(some 6), .cn (.t 0), none, []⟩,
       ⟨(some 7), .app 0 ty_uint8 1 1 (.t 5) (.t 6), none, []⟩,
       ⟨(some 2), .cn (.t 7), none, [7]⟩])
     (.ret i_slices_Clone_sl_byte_byte_r)))),
  [.tmp 2], [], true, []⟩

def i_law03_may_r : List Bool := [false, false, true, false, false, false, false, false, false]
/-- heartwood/heartwoodlaw03.may -/
def i_law03_may : Ev.Fn := ⟨1, 9, 0,
  (.seq
   (.reg [] [
     ⟨(some 2), .mv (.k (.bool false)), none, []⟩])
   (.seq
    (.reg [] [
      ⟨(some 3), .mv (.t 0), none, []⟩,
      ⟨(some 4), .bin .plain .geq (.t 3) (.k (.int .i64 1)), none, []⟩,
      ⟨(some 5), .mv (.t 4), none, []⟩,
      ⟨(some 6), .mv (.t 0), (some (5, true)), []⟩,
      ⟨(some 7), .bin .plain .leq (.t 6) (.k (.int .i64 32)), (some (5, true)), []⟩,
      ⟨(some 8), .pick (.t 5) (.t 7) (.k (.bool false)), none, []⟩,
      ⟨(some 2), .mv (.t 8), none, []⟩])
    (.ret i_law03_may_r))),
  [.tmp 2], [], false, []⟩

def i_ref03_Of_r : List Bool := [false, false, false, false, false, false, true, false, false, false, false, false]
/-- heartwood/heartwoodref03.Of -/
def i_ref03_Of : Ev.Fn := ⟨3, 12, 1,
  (.seq
   (.reg [] [
     ⟨(some 3), .box 0 9 (.t 0), none, []⟩,
     ⟨(some 6), .cn (.k (.slice none 0 0)), none, []⟩])
   (.seq
    (.reg [] [
      ⟨(some 7), .load true 9 (.t 3), none, []⟩,
      ⟨(some 8), .cn (.t 2), none, []⟩,
      ⟨(some 9), .qcall n_ref01_Tables_Sum [(.t 7), (.t 8)] [], none, []⟩,
      ⟨(some 10), .mv (.t 1), none, []⟩,
      ⟨(some 11), .slice 1 (.t 9) none (some (.t 10)) none, none, []⟩,
      ⟨(some 6), .cn (.t 11), none, []⟩])
    (.ret i_ref03_Of_r))),
  [.tmp 6], [], false, []⟩

def i_law03_DigestStays_r : List Bool := [false, false, false, false, true, false, false, false, false, false, false, false, false, false, false, false, false, false, false, false, false, false, false, false, false, false, false, false, false, false, false, false, false, false, false, false, false, false, false, false, false, false, false, false, false, false, false, false, false, false, false, false, false, false, false, false, false, false, false, false, false, false, false, false, false, false, false, false, false, false, false, false, false, false, false, false, false, false, false, false, false, false, false, false, false, false, false, false, false, false, false, false, false, false, false, false, false, false, false, false, false, false, false, false, false, false, false, false, false, false, false, false, false, false, false, false, false, false, false, false, false, false, false, false, false, false, false, false, false, false, false, false, false, false, false, false, false, false, false, false, false, false, false, false, false, false, false, false, false, false, false, false, false, false, false, false, false, false, false, false, false, false, false, false, false, false, false, false, false, false, false, false, false, false, false]
def i_law03_DigestStays_j1 : List Bool := [true, false, false, true, false, true, true, true, true, true, true, true, true, true, true, true, true, false, false, false, false, false, false, false, false, false, false, false, false, false, false, false, false, false, false, false, false, false, false, false, false, false, false, false, false, false, false, false, false, false, false, false, false, false, false, false, false, false, false, false, false, false, false, false, false, false, false, false, false, false, false, false, false, false, false, false, false, false, false, false, false, false, false, false, false, false, false, false, false, false, false, false, false, false, false, false, false, false, false, false, false, false, false, false, false, false, false, false, false, false, false, false, false, false, false, false, false, false, false, false, false, false, false, false, false, false, false, false, false, false, false, false, false, false, false, false, false, false, false, false, false, false, false, false, false, false, false, false, false, false, false, false, false, false, false, false, false, false, false, false, false, false, false, false, false, false, false, false, false, false, false, false, false, false, false]
def i_law03_DigestStays_k0 : List Bool := [true, false, false, true, false, true, true, true, true, true, true, true, true, true, true, true, true, false, false, false, false, false, false, false, false, false, false, false, false, false, false, false, false, false, false, false, false, false, false, false, false, false, false, false, false, false, false, false, false, false, false, false, false, false, false, false, false, false, false, false, false, false, false, false, false, false, false, false, false, false, false, false, false, false, false, false, false, false, false, false, false, false, false, false, false, false, false, false, false, false, false, false, false, false, false, false, false, false, false, false, false, false, false, false, false, false, false, false, false, false, false, false, false, false, false, false, false, false, false, false, false, false, false, false, false, false, false, false, false, false, false, false, false, false, false, false, false, false, false, false, false, false, false, false, false, false, false, false, false, false, false, false, false, false, false, false, false, false, false, false, false, false, false, false, false, false, false, false, false, false, false, false, false, false, false]
def i_law03_DigestStays_j0 : List Bool := [true, false, false, true, false, true, false, true, true, true, true, true, true, true, true, true, false, false, false, false, false, false, false, false, false, false, false, false, false, false, false, false, false, false, false, false, false, false, false, false, false, false, false, false, false, false, false, false, false, false, false, false, false, false, false, false, false, false, false, false, false, false, false, false, false, false, false, false, false, false, false, false, false, false, false, false, false, false, false, false, false, false, false, false, false, false, false, false, false, false, false, false, false, false, false, false, false, false, false, false, false, false, false, false, false, false, false, false, false, false, false, false, false, false, false, false, false, false, false, false, false, false, false, false, false, false, false, false, false, false, false, false, false, false, false, false, false, false, false, false, false, false, false, false, false, false, false, false, false, false, false, false, false, false, false, false, false, false, false, false, false, false, false, false, false, false, false, false, false, false, false, false, false, false, false]
abbrev s_law03_DigestStays_R (t4 : AV) (h : Heap) : St := ⟨[.undef, .undef, .undef, .undef, t4, .undef, .undef, .undef, .undef, .undef, .undef, .undef, .undef, .undef, .undef, .undef, .undef, .undef, .undef, .undef, .undef, .undef, .undef, .undef, .undef, .undef, .undef, .undef, .undef, .undef, .undef, .undef, .undef, .undef, .undef, .undef, .undef, .undef, .undef, .undef, .undef, .undef, .undef, .undef, .undef, .undef, .undef, .undef, .undef, .undef, .undef, .undef, .undef, .undef, .undef, .undef, .undef, .undef, .undef, .undef, .undef, .undef, .undef, .undef, .undef, .undef, .undef, .undef, .undef, .undef, .undef, .undef, .undef, .undef, .undef, .undef, .undef, .undef, .undef, .undef, .undef, .undef, .undef, .undef, .undef, .undef, .undef, .undef, .undef, .undef, .undef, .undef, .undef, .undef, .undef, .undef, .undef, .undef, .undef, .undef, .undef, .undef, .undef, .undef, .undef, .undef, .undef, .undef, .undef, .undef, .undef, .undef, .undef, .undef, .undef, .undef, .undef, .undef, .undef, .undef, .undef, .undef, .undef, .undef, .undef, .undef, .undef, .undef, .undef, .undef, .undef, .undef, .undef, .undef, .undef, .undef, .undef, .undef, .undef, .undef, .undef, .undef, .undef, .undef, .undef, .undef, .undef, .undef, .undef, .undef, .undef, .undef, .undef, .undef, .undef, .undef, .undef, .undef, .undef, .undef, .undef, .undef, .undef, .undef, .undef, .undef, .undef, .undef, .undef, .undef, .undef, .undef, .undef, .undef, .undef], h⟩
abbrev s_law03_DigestStays_K0 (t0 t3 t5 t6 t7 t8 t9 t10 t11 t12 t13 t14 t15 t16 : AV) (h : Heap) : St := ⟨[t0, .undef, .undef, t3, .undef, t5, t6, t7, t8, t9, t10, t11, t12, t13, t14, t15, t16, .undef, .undef, .undef, .undef, .undef, .undef, .undef, .undef, .undef, .undef, .undef, .undef, .undef, .undef, .undef, .undef, .undef, .undef, .undef, .undef, .undef, .undef, .undef, .undef, .undef, .undef, .undef, .undef, .undef, .undef, .undef, .undef, .undef, .undef, .undef, .undef, .undef, .undef, .undef, .undef, .undef, .undef, .undef, .undef, .undef, .undef, .undef, .undef, .undef, .undef, .undef, .undef, .undef, .undef, .undef, .undef, .undef, .undef, .undef, .undef, .undef, .undef, .undef, .undef, .undef, .undef, .undef, .undef, .undef, .undef, .undef, .undef, .undef, .undef, .undef, .undef, .undef, .undef, .undef, .undef, .undef, .undef, .undef, .undef, .undef, .undef, .undef, .undef, .undef, .undef, .undef, .undef, .undef, .undef, .undef, .undef, .undef, .undef, .undef, .undef, .undef, .undef, .undef, .undef, .undef, .undef, .undef, .undef, .undef, .undef, .undef, .undef, .undef, .undef, .undef, .undef, .undef, .undef, .undef, .undef, .undef, .undef, .undef, .undef, .undef, .undef, .undef, .undef, .undef, .undef, .undef, .undef, .undef, .undef, .undef, .undef, .undef, .undef, .undef, .undef, .undef, .undef, .undef, .undef, .undef, .undef, .undef, .undef, .undef, .undef, .undef, .undef, .undef, .undef, .undef, .undef, .undef, .undef], h⟩
def i_law03_DigestStays_b0 : IR :=
  (.seq
   (.seq
    (.reg [] [
      ⟨(some 83), .mv (.t 16), none, []⟩,
      ⟨(some 84), .cn (.t 6), none, []⟩,
      ⟨(some 85), .len false (.t 84), none, []⟩,
      ⟨(some 86), .bin .plain .lss (.t 83) (.t 85), none, []⟩])
    (.cond (.t 86)
     .skip
     (.exit 0 i_law03_DigestStays_j0)))
   (.seq
    (.block 1 i_law03_DigestStays_j1
     (.reg [] [
       ⟨(some 89), .mv (.t 6), none, []⟩,
       ⟨(some 90), .mv (.t 16), none, []⟩,
       ⟨(some 91), .cn (.t 6), none, []⟩,
       ⟨(some 92), .mv (.t 16), none, []⟩,
       ⟨(some 93), .ia 1 (.t 91) (.t 92), none, []⟩,
       ⟨(some 94), .load false 1 (.t 93), none, []⟩,
       ⟨(some 95), .bin .plain .add (.t 94) (.k (.int .u8 1)), none, []⟩,
       ⟨(some 96), .ia 1 (.t 89) (.t 90), none, []⟩,
       ⟨none, .store 1 (.t 96) (.t 95), none, []⟩]))
    (.reg [] [
      ⟨(some 87), .mv (.t 16), none, []⟩,
      ⟨(some 88), .bin .plain .add (.t 87) (.k (.int .i64 1)), none, []⟩,
      ⟨(some 16), .mv (.t 88), none, []⟩])))

abbrev s_law03_DigestStays_J0 (t0 t3 t5 t7 t8 t9 t10 t11 t12 t13 t14 t15 : AV) (h : Heap) : St := ⟨[t0, .undef, .undef, t3, .undef, t5, .undef, t7, t8, t9, t10, t11, t12, t13, t14, t15, .undef, .undef, .undef, .undef, .undef, .undef, .undef, .undef, .undef, .undef, .undef, .undef, .undef, .undef, .undef, .undef, .undef, .undef, .undef, .undef, .undef, .undef, .undef, .undef, .undef, .undef, .undef, .undef, .undef, .undef, .undef, .undef, .undef, .undef, .undef, .undef, .undef, .undef, .undef, .undef, .undef, .undef, .undef, .undef, .undef, .undef, .undef, .undef, .undef, .undef, .undef, .undef, .undef, .undef, .undef, .undef, .undef, .undef, .undef, .undef, .undef, .undef, .undef, .undef, .undef, .undef, .undef, .undef, .undef, .undef, .undef, .undef, .undef, .undef, .undef, .undef, .undef, .undef, .undef, .undef, .undef, .undef, .undef, .undef, .undef, .undef, .undef, .undef, .undef, .undef, .undef, .undef, .undef, .undef, .undef, .undef, .undef, .undef, .undef, .undef, .undef, .undef, .undef, .undef, .undef, .undef, .undef, .undef, .undef, .undef, .undef, .undef, .undef, .undef, .undef, .undef, .undef, .undef, .undef, .undef, .undef, .undef, .undef, .undef, .undef, .undef, .undef, .undef, .undef, .undef, .undef, .undef, .undef, .undef, .undef, .undef, .undef, .undef, .undef, .undef, .undef, .undef, .undef, .undef, .undef, .undef, .undef, .undef, .undef, .undef, .undef, .undef, .undef, .undef, .undef, .undef, .undef, .undef, .undef], h⟩
/-- heartwood/heartwoodlaw03.DigestStays -/
def i_law03_DigestStays : Ev.Fn := ⟨2, 175, 3,
  (.seq
   (.reg [] [
     ⟨(some 3), .box 0 4 (.t 1), none, []⟩,
     ⟨(some 4), .mv (.k (.bool false)), none, []⟩])
   (.seq
    (.reg [] [
      ⟨(some 24), .qcall n_law03_up [] [], none, []⟩,
      ⟨(some 5), .mv (.t 24), none, []⟩])
    (.seq
     (.seq
      (.reg [] [
        ⟨(some 25), .cn (.t 0), none, []⟩,
        ⟨(some 26), .len false (.t 25), none, []⟩,
        ⟨(some 27), .bin .plain .gtr (.t 26) (.k (.int .i64 5000)), none, []⟩])
      (.cond (.t 27)
       (.reg [] [
         ⟨(some 28), .cn (.t 0), none, []⟩,
         ⟨(some 29), .slice 1 (.t 28) none (some (.k (.int .i64 5000))) none, none, []⟩,
         ⟨(some 0), .cn (.t 29), none, []⟩])
       .skip))
     (.seq
      (.reg [] [
        ⟨(some 30), .lit 1 ty_uint8 1 0 [(.int .u8 0)] [], none, []⟩,
        ⟨(some 31), .cn (.t 0), none, []⟩,
        ⟨(some 32), .app 1 ty_uint8 1 1 (.t 30) (.t 31), none, []⟩,
        ⟨(some 6), .mv (.t 32), none, []⟩])
      (.seq
       (.reg [] [
         ⟨(some 33), .cn (.t 6), none, []⟩,
         ⟨(some 34), .qcall n_digest_Value [(.t 33)] [], none, [33]⟩,
         ⟨(some 7), .cn (.t 34), none, []⟩])
       (.seq
        (.reg [] [
          ⟨(some 36), .cn (.t 6), none, []⟩,
          ⟨(some 37), .qcall n_digest_Of [(.k (.int .i64 4)), (.t 36)] [], none, [36]⟩,
          ⟨(some 35), .mv (.t 37), none, []⟩,
          ⟨(some 38), .ext 0 (.t 35), none, []⟩,
          ⟨(some 39), .ext 1 (.t 35), none, []⟩,
          ⟨(some 8), .cn (.t 38), none, []⟩,
          ⟨(some 9), .mv (.t 39), none, []⟩])
        (.seq
         (.reg [] [
           ⟨(some 40), .iap 4 1 (.t 3) (.k (.int .i64 0)), none, []⟩,
           ⟨(some 41), .load false 1 (.t 40), none, []⟩,
           ⟨(some 42), .iap 4 1 (.t 3) (.k (.int .i64 1)), none, []⟩,
           ⟨(some 43), .load false 1 (.t 42), none, []⟩,
           ⟨(some 44), .iap 4 1 (.t 3) (.k (.int .i64 2)), none, []⟩,
           ⟨(some 45), .load false 1 (.t 44), none, []⟩,
           ⟨(some 46), .iap 4 1 (.t 3) (.k (.int .i64 3)), none, []⟩,
           ⟨(some 47), .load false 1 (.t 46), none, []⟩,
           ⟨(some 48), .lit 2 ty_uint8 1 4 [(.int .u8 0)] [(0, (.t 41)), (1, (.t 43)), (2, (.t 45)), (3, (.t 47))], none, []⟩,
           ⟨(some 10), .mv (.t 48), none, []⟩])
         (.seq
          (.reg [] [
            ⟨(some 50), .cn (.t 6), none, []⟩,
            ⟨(some 51), .cn (.t 10), none, []⟩,
            ⟨(some 52), .qcall n_digest_Pair [(.k (.int .i64 4)), (.t 50), (.t 51)] [], none, [50, 51]⟩,
            ⟨(some 49), .mv (.t 52), none, []⟩,
            ⟨(some 53), .ext 0 (.t 49), none, []⟩,
            ⟨(some 54), .ext 1 (.t 49), none, []⟩,
            ⟨(some 11), .cn (.t 53), none, []⟩,
            ⟨(some 12), .mv (.t 54), none, []⟩])
          (.seq
           (.reg [] [
             ⟨(some 56), .cn (.t 10), none, []⟩,
             ⟨(some 57), .cn (.t 10), none, []⟩,
             ⟨(some 58), .cn (.t 10), none, []⟩,
             ⟨(some 59), .qcall n_digest_Node [(.k (.int .i64 4)), (.t 56), (.t 57), (.t 58)] [], none, [56, 57, 58]⟩,
             ⟨(some 55), .mv (.t 59), none, []⟩,
             ⟨(some 60), .ext 0 (.t 55), none, []⟩,
             ⟨(some 61), .ext 1 (.t 55), none, []⟩,
             ⟨(some 13), .cn (.t 60), none, []⟩,
             ⟨(some 14), .mv (.t 61), none, []⟩])
           (.seq
            (.reg [] [
              ⟨(some 62), .cn (.t 6), none, []⟩,
              ⟨(some 63), .b2s (.t 62), none, []⟩,
              ⟨(some 64), .cn (.t 0), none, []⟩,
              ⟨(some 65), .b2s (.t 64), none, []⟩,
              ⟨(some 66), .bin .plain .eql (.t 63) (.t 65), none, []⟩,
              ⟨(some 67), .mv (.t 66), none, []⟩,
              ⟨(some 68), .cn (.t 10), (some (67, true)), []⟩,
              ⟨(some 69), .ia 1 (.t 68) (.k (.int .i64 0)), (some (67, true)), []⟩,
              ⟨(some 70), .load false 1 (.t 69), (some (67, true)), []⟩,
              ⟨(some 71), .iap 4 1 (.t 3) (.k (.int .i64 0)), (some (67, true)), []⟩,
              ⟨(some 72), .load false 1 (.t 71), (some (67, true)), []⟩,
              ⟨(some 73), .bin .plain .eql (.t 70) (.t 72), (some (67, true)), []⟩,
              ⟨(some 74), .pick (.t 67) (.t 73) (.k (.bool false)), none, []⟩,
              ⟨(some 75), .mv (.t 74), none, []⟩,
              ⟨(some 76), .cn (.t 10), (some (75, true)), []⟩,
              ⟨(some 77), .ia 1 (.t 76) (.k (.int .i64 3)), (some (75, true)), []⟩,
              ⟨(some 78), .load false 1 (.t 77), (some (75, true)), []⟩,
              ⟨(some 79), .iap 4 1 (.t 3) (.k (.int .i64 3)), (some (75, true)), []⟩,
              ⟨(some 80), .load false 1 (.t 79), (some (75, true)), []⟩,
              ⟨(some 81), .bin .plain .eql (.t 78) (.t 80), (some (75, true)), []⟩,
              ⟨(some 82), .pick (.t 75) (.t 81) (.k (.bool false)), none, []⟩,
              ⟨(some 15), .mv (.t 82), none, []⟩])
            (.seq
             (.seq
              (.reg [] [
                ⟨(some 16), .mv (.k (.int .i64 0)), none, []⟩])
              (.block 0 i_law03_DigestStays_j0
               (.loop i_law03_DigestStays_k0 i_law03_DigestStays_b0)))
             (.seq
              (.reg [] [
                ⟨(some 97), .mv (.t 10), none, []⟩,
                ⟨(some 98), .cn (.t 10), none, [10]⟩,
                ⟨(some 99), .ia 1 (.t 98) (.k (.int .i64 0)), none, []⟩,
                ⟨(some 100), .load false 1 (.t 99), none, []⟩,
                ⟨(some 101), .bin .plain .add (.t 100) (.k (.int .u8 1)), none, []⟩,
                ⟨(some 102), .ia 1 (.t 97) (.k (.int .i64 0)), none, []⟩,
                ⟨none, .store 1 (.t 102) (.t 101), none, []⟩])
              (.seq
               (.reg [] [
                 ⟨(some 103), .iap 4 1 (.t 3) (.k (.int .i64 0)), none, []⟩,
                 ⟨(some 104), .load false 1 (.t 103), none, []⟩,
                 ⟨(some 105), .iap 4 1 (.t 3) (.k (.int .i64 1)), none, []⟩,
                 ⟨(some 106), .load false 1 (.t 105), none, []⟩,
                 ⟨(some 107), .iap 4 1 (.t 3) (.k (.int .i64 2)), none, []⟩,
                 ⟨(some 108), .load false 1 (.t 107), none, []⟩,
                 ⟨(some 109), .iap 4 1 (.t 3) (.k (.int .i64 3)), none, []⟩,
                 ⟨(some 110), .load false 1 (.t 109), none, []⟩,
                 ⟨(some 111), .litd 1 4 [(.int .u8 0)] [(0, (.t 104)), (1, (.t 106)), (2, (.t 108)), (3, (.t 110))], none, []⟩,
                 ⟨(some 17), .cn (.t 111), none, []⟩])
               (.seq
                (.reg [] [
                  ⟨(some 113), .cn (.t 0), none, []⟩,
                  ⟨(some 114), .qcall n_digest_Of [(.k (.int .i64 4)), (.t 113)] [], none, []⟩,
                  ⟨(some 112), .mv (.t 114), none, []⟩,
                  ⟨(some 115), .ext 0 (.t 112), none, []⟩,
                  ⟨(some 116), .ext 1 (.t 112), none, []⟩,
                  ⟨(some 18), .cn (.t 115), none, []⟩,
                  ⟨(some 19), .mv (.t 116), none, []⟩])
                (.seq
                 (.reg [] [
                   ⟨(some 118), .cn (.t 0), none, []⟩,
                   ⟨(some 119), .cn (.t 17), none, []⟩,
                   ⟨(some 120), .qcall n_digest_Pair [(.k (.int .i64 4)), (.t 118), (.t 119)] [], none, []⟩,
                   ⟨(some 117), .mv (.t 120), none, []⟩,
                   ⟨(some 121), .ext 0 (.t 117), none, []⟩,
                   ⟨(some 122), .ext 1 (.t 117), none, []⟩,
                   ⟨(some 20), .cn (.t 121), none, []⟩,
                   ⟨(some 21), .mv (.t 122), none, []⟩])
                 (.seq
                  (.reg [] [
                    ⟨(some 124), .cn (.t 17), none, []⟩,
                    ⟨(some 125), .cn (.t 17), none, []⟩,
                    ⟨(some 126), .cn (.t 17), none, []⟩,
                    ⟨(some 127), .qcall n_digest_Node [(.k (.int .i64 4)), (.t 124), (.t 125), (.t 126)] [], none, []⟩,
                    ⟨(some 123), .mv (.t 127), none, []⟩,
                    ⟨(some 128), .ext 0 (.t 123), none, []⟩,
                    ⟨(some 129), .ext 1 (.t 123), none, []⟩,
                    ⟨(some 22), .cn (.t 128), none, []⟩,
                    ⟨(some 23), .mv (.t 129), none, []⟩])
                  (.seq
                   (.reg [] [
                     ⟨(some 130), .mv (.t 5), none, []⟩,
                     ⟨(some 131), .mv (.t 130), none, []⟩,
                     ⟨(some 132), .mv (.t 15), (some (131, true)), []⟩,
                     ⟨(some 133), .pick (.t 131) (.t 132) (.k (.bool false)), none, []⟩,
                     ⟨(some 134), .mv (.t 133), none, []⟩,
                     ⟨(some 135), .mv (.t 9), (some (134, true)), []⟩,
                     ⟨(some 136), .bin (.iface ty_api_Code true) .eql (.t 135) (.k .nilIface), (some (134, true)), []⟩,
                     ⟨(some 137), .pick (.t 134) (.t 136) (.k (.bool false)), none, []⟩,
                     ⟨(some 138), .mv (.t 137), none, []⟩,
                     ⟨(some 139), .mv (.t 12), (some (138, true)), []⟩,
                     ⟨(some 140), .bin (.iface ty_api_Code true) .eql (.t 139) (.k .nilIface), (some (138, true)), []⟩,
                     ⟨(some 141), .pick (.t 138) (.t 140) (.k (.bool false)), none, []⟩,
                     ⟨(some 142), .mv (.t 141), none, []⟩,
                     ⟨(some 143), .mv (.t 14), (some (142, true)), []⟩,
                     ⟨(some 144), .bin (.iface ty_api_Code true) .eql (.t 143) (.k .nilIface), (some (142, true)), []⟩,
                     ⟨(some 145), .pick (.t 142) (.t 144) (.k (.bool false)), none, []⟩,
                     ⟨(some 146), .mv (.t 145), none, []⟩,
                     ⟨(some 147), .cn (.t 7), (some (146, true)), []⟩,
                     ⟨(some 148), .b2s (.t 147), (some (146, true)), []⟩,
                     ⟨(some 149), .cn (.t 0), (some (146, true)), []⟩,
                     ⟨(some 150), .qcall n_digest_Value [(.t 149)] [], (some (146, true)), []⟩,
                     ⟨(some 151), .b2s (.t 150), (some (146, true)), []⟩,
                     ⟨(some 152), .bin .plain .eql (.t 148) (.t 151), (some (146, true)), []⟩,
                     ⟨(some 153), .pick (.t 146) (.t 152) (.k (.bool false)), none, []⟩,
                     ⟨(some 154), .mv (.t 153), none, []⟩,
                     ⟨(some 155), .cn (.t 8), (some (154, true)), []⟩,
                     ⟨(some 156), .b2s (.t 155), (some (154, true)), []⟩,
                     ⟨(some 157), .cn (.t 18), (some (154, true)), []⟩,
                     ⟨(some 158), .b2s (.t 157), (some (154, true)), []⟩,
                     ⟨(some 159), .bin .plain .eql (.t 156) (.t 158), (some (154, true)), []⟩,
                     ⟨(some 160), .pick (.t 154) (.t 159) (.k (.bool false)), none, []⟩,
                     ⟨(some 161), .mv (.t 160), none, []⟩,
                     ⟨(some 162), .cn (.t 11), (some (161, true)), []⟩,
                     ⟨(some 163), .b2s (.t 162), (some (161, true)), []⟩,
                     ⟨(some 164), .cn (.t 20), (some (161, true)), []⟩,
                     ⟨(some 165), .b2s (.t 164), (some (161, true)), []⟩,
                     ⟨(some 166), .bin .plain .eql (.t 163) (.t 165), (some (161, true)), []⟩,
                     ⟨(some 167), .pick (.t 161) (.t 166) (.k (.bool false)), none, []⟩,
                     ⟨(some 168), .mv (.t 167), none, []⟩,
                     ⟨(some 169), .cn (.t 13), (some (168, true)), []⟩,
                     ⟨(some 170), .b2s (.t 169), (some (168, true)), []⟩,
                     ⟨(some 171), .cn (.t 22), (some (168, true)), []⟩,
                     ⟨(some 172), .b2s (.t 171), (some (168, true)), []⟩,
                     ⟨(some 173), .bin .plain .eql (.t 170) (.t 172), (some (168, true)), []⟩,
                     ⟨(some 174), .pick (.t 168) (.t 173) (.k (.bool false)), none, []⟩,
                     ⟨(some 4), .mv (.t 174), none, []⟩])
                   (.ret i_law03_DigestStays_r)))))))))))))))))),
  [.tmp 4], [], false, []⟩

def i_digest_Value_r : List Bool := [false, false, true, false, false, false]
/-- heartwood/digest.Value -/
def i_digest_Value : Ev.Fn := ⟨1, 6, 1,
  (.seq
   (.reg [] [
     ⟨(some 2), .cn (.k (.slice none 0 0)), none, []⟩])
   (.seq
    (.reg [] [
      ⟨(some 3), .lit 0 ty_uint8 1 1 [(.int .u8 0)] [(0, (.k (.int .u8 0)))], none, []⟩,
      ⟨(some 4), .cn (.t 0), none, []⟩,
      ⟨(some 5), .app 0 ty_uint8 1 1 (.t 3) (.t 4), none, []⟩,
      ⟨(some 2), .cn (.t 5), none, [5]⟩])
    (.ret i_digest_Value_r))),
  [.tmp 2], [], false, []⟩

def i_digest_Node_r : List Bool := [false, false, false, false, false, false, false, false, true, true, false, false, false, false, false, false, false, false, false, false, false, false, false, false, false, false, false, false, false, false, false, false, false, false, false, false, false, false]
/-- heartwood/digest.Node -/
def i_digest_Node : Ev.Fn := ⟨4, 38, 0,
  (.seq
   (.reg [] [
     ⟨(some 8), .cn (.k (.slice none 0 0)), none, []⟩,
     ⟨(some 9), .mv (.k .nilIface), none, []⟩])
   (.seq
    (.seq
     (.reg [] [
       ⟨(some 10), .mv (.t 0), none, []⟩,
       ⟨(some 11), .qcall n_digest_width [(.t 10)] [], none, []⟩,
       ⟨(some 12), .un .not (.t 11), none, []⟩,
       ⟨(some 13), .mv (.t 12), none, []⟩,
       ⟨(some 14), .cn (.t 1), (some (13, false)), []⟩,
       ⟨(some 15), .len false (.t 14), (some (13, false)), []⟩,
       ⟨(some 16), .mv (.t 0), (some (13, false)), []⟩,
       ⟨(some 17), .bin .plain .neq (.t 15) (.t 16), (some (13, false)), []⟩,
       ⟨(some 18), .pick (.t 13) (.k (.bool true)) (.t 17), none, []⟩,
       ⟨(some 19), .mv (.t 18), none, []⟩,
       ⟨(some 20), .cn (.t 2), (some (19, false)), []⟩,
       ⟨(some 21), .len false (.t 20), (some (19, false)), []⟩,
       ⟨(some 22), .mv (.t 0), (some (19, false)), []⟩,
       ⟨(some 23), .bin .plain .neq (.t 21) (.t 22), (some (19, false)), []⟩,
       ⟨(some 24), .pick (.t 19) (.k (.bool true)) (.t 23), none, []⟩,
       ⟨(some 25), .mv (.t 24), none, []⟩,
       ⟨(some 26), .cn (.t 3), (some (25, false)), []⟩,
       ⟨(some 27), .len false (.t 26), (some (25, false)), []⟩,
       ⟨(some 28), .mv (.t 0), (some (25, false)), []⟩,
       ⟨(some 29), .bin .plain .neq (.t 27) (.t 28), (some (25, false)), []⟩,
       ⟨(some 30), .pick (.t 25) (.k (.bool true)) (.t 29), none, []⟩])
     (.cond (.t 30)
      (.seq
       (.reg [] [
         ⟨(some 31), .mki ty_api_Code (.k (.int .i64 1)), none, []⟩,
         ⟨(some 8), .cn (.k (.slice none 0 0)), none, []⟩,
         ⟨(some 9), .mv (.t 31), none, []⟩])
       (.ret i_digest_Node_r))
      .skip))
    (.seq
     (.reg [] [
       ⟨(some 32), .litd 1 1 [(.int .u8 0)] [(0, (.k (.int .u8 2)))], none, []⟩,
       ⟨(some 33), .cn (.t 1), none, []⟩,
       ⟨(some 34), .cn (.t 2), none, []⟩,
       ⟨(some 35), .cn (.t 3), none, []⟩,
       ⟨(some 36), .litd 1 4 [(.slice none 0 0)] [(0, (.t 32)), (1, (.t 33)), (2, (.t 34)), (3, (.t 35))], none, []⟩,
       ⟨(some 37), .qcall n_slices_Concat_sl_byte_byte [(.t 36)] [], none, []⟩,
       ⟨(some 8), .cn (.t 37), none, []⟩,
       ⟨(some 9), .mv (.k .nilIface), none, []⟩])
     (.ret i_digest_Node_r)))),
  [.tmp 8, .tmp 9], [], false, []⟩

def tab (f : Nat) : Option Ev.Fn := match f with
  | 3 => some i_law01_ShaSteps
  | 9 => some i_ref01_Made
  | 24 => some i_ref01_root
  | 35 => some i_ref01_below
  | 39 => some i_ref01_times
  | 10 => some i_sha_Step
  | 15 => some i_sha_Words
  | 29 => some i_math_bits_RotateLeft32
  | 25 => some i_sha_Round
  | 11 => some i_sha_First
  | 12 => some i_ref01_Tables_Step
  | 26 => some i_ref01_Words
  | 36 => some i_ref01_turn
  | 27 => some i_ref01_Round
  | 4 => some i_law01_ShaSums
  | 13 => some i_sha_Sum
  | 16 => some i_sha_Tail
  | 14 => some i_ref01_Tables_Sum
  | 28 => some i_ref01_Tail
  | 5 => some i_law01_ShaStays
  | 6 => some i_law01_ShaGoes
  | 7 => some i_law03_DigestOf
  | 17 => some i_law03_up
  | 22 => some i_digest_Pair
  | 31 => some i_digest_width
  | 34 => some i_coder_Bytes
  | 38 => some i_coder_Number
  | 33 => some i_slices_Concat_sl_byte_byte
  | 37 => some i_slices_Grow_sl_byte_byte
  | 30 => some i_digest_None
  | 18 => some i_digest_Of
  | 32 => some i_slices_Clone_sl_byte_byte
  | 19 => some i_law03_may
  | 20 => some i_ref03_Of
  | 8 => some i_law03_DigestStays
  | 21 => some i_digest_Value
  | 23 => some i_digest_Node
  | _ => none
theorem t_law01_ShaSteps : tab n_law01_ShaSteps = some i_law01_ShaSteps := rfl
theorem t_ref01_Made : tab n_ref01_Made = some i_ref01_Made := rfl
theorem t_ref01_root : tab n_ref01_root = some i_ref01_root := rfl
theorem t_ref01_below : tab n_ref01_below = some i_ref01_below := rfl
theorem t_ref01_times : tab n_ref01_times = some i_ref01_times := rfl
theorem t_sha_Step : tab n_sha_Step = some i_sha_Step := rfl
theorem t_sha_Words : tab n_sha_Words = some i_sha_Words := rfl
theorem t_math_bits_RotateLeft32 : tab n_math_bits_RotateLeft32 = some i_math_bits_RotateLeft32 := rfl
theorem t_sha_Round : tab n_sha_Round = some i_sha_Round := rfl
theorem t_sha_First : tab n_sha_First = some i_sha_First := rfl
theorem t_ref01_Tables_Step : tab n_ref01_Tables_Step = some i_ref01_Tables_Step := rfl
theorem t_ref01_Words : tab n_ref01_Words = some i_ref01_Words := rfl
theorem t_ref01_turn : tab n_ref01_turn = some i_ref01_turn := rfl
theorem t_ref01_Round : tab n_ref01_Round = some i_ref01_Round := rfl
theorem t_law01_ShaSums : tab n_law01_ShaSums = some i_law01_ShaSums := rfl
theorem t_sha_Sum : tab n_sha_Sum = some i_sha_Sum := rfl
theorem t_sha_Tail : tab n_sha_Tail = some i_sha_Tail := rfl
theorem t_ref01_Tables_Sum : tab n_ref01_Tables_Sum = some i_ref01_Tables_Sum := rfl
theorem t_ref01_Tail : tab n_ref01_Tail = some i_ref01_Tail := rfl
theorem t_law01_ShaStays : tab n_law01_ShaStays = some i_law01_ShaStays := rfl
theorem t_law01_ShaGoes : tab n_law01_ShaGoes = some i_law01_ShaGoes := rfl
theorem t_law03_DigestOf : tab n_law03_DigestOf = some i_law03_DigestOf := rfl
theorem t_law03_up : tab n_law03_up = some i_law03_up := rfl
theorem t_digest_Pair : tab n_digest_Pair = some i_digest_Pair := rfl
theorem t_digest_width : tab n_digest_width = some i_digest_width := rfl
theorem t_coder_Bytes : tab n_coder_Bytes = some i_coder_Bytes := rfl
theorem t_coder_Number : tab n_coder_Number = some i_coder_Number := rfl
theorem t_slices_Concat_sl_byte_byte : tab n_slices_Concat_sl_byte_byte = some i_slices_Concat_sl_byte_byte := rfl
theorem t_slices_Grow_sl_byte_byte : tab n_slices_Grow_sl_byte_byte = some i_slices_Grow_sl_byte_byte := rfl
theorem t_digest_None : tab n_digest_None = some i_digest_None := rfl
theorem t_digest_Of : tab n_digest_Of = some i_digest_Of := rfl
theorem t_slices_Clone_sl_byte_byte : tab n_slices_Clone_sl_byte_byte = some i_slices_Clone_sl_byte_byte := rfl
theorem t_law03_may : tab n_law03_may = some i_law03_may := rfl
theorem t_ref03_Of : tab n_ref03_Of = some i_ref03_Of := rfl
theorem t_law03_DigestStays : tab n_law03_DigestStays = some i_law03_DigestStays := rfl
theorem t_digest_Value : tab n_digest_Value = some i_digest_Value := rfl
theorem t_digest_Node : tab n_digest_Node = some i_digest_Node := rfl
/-- The constants of the rounds, and the words at first. -/
def tabK : List Int := [1116352408, 1899447441, 3049323471, 3921009573, 961987163, 1508970993, 2453635748, 2870763221, 3624381080, 310598401, 607225278, 1426881987, 1925078388, 2162078206, 2614888103, 3248222580, 3835390401, 4022224774, 264347078, 604807628, 770255983, 1249150122, 1555081692, 1996064986, 2554220882, 2821834349, 2952996808, 3210313671, 3336571891, 3584528711, 113926993, 338241895, 666307205, 773529912, 1294757372, 1396182291, 1695183700, 1986661051, 2177026350, 2456956037, 2730485921, 2820302411, 3259730800, 3345764771, 3516065817, 3600352804, 4094571909, 275423344, 430227734, 506948616, 659060556, 883997877, 958139571, 1322822218, 1537002063, 1747873779, 1955562222, 2024104815, 2227730452, 2361852424, 2428436474, 2756734187, 3204031479, 3329325298]
def tabH : List Int := [1779033703, 3144134277, 1013904242, 2773480762, 1359893119, 2600822924, 528734635, 1541459225]
def gK : List C := tabK.map fun n => .sc (.int .u32 n)
def gH : List C := tabH.map fun n => .sc (.int .u32 n)
def G0 : Cf := ⟨fun g => if g = 0 then gK else if g = 1 then gH else [], false⟩
theorem G0_0 : G0.G 0 = gK := rfl
theorem G0_1 : G0.G 1 = gH := rfl
theorem gK_len : gK.length = 64 := rfl
theorem gH_len : gH.length = 8 := rfl
theorem gK_at {i : Nat} (h : i < 64) : (gK.drop i).take 1 = [.sc (.int .u32 (tabK.getD i 0))] := by
  have hl : tabK.length = 64 := rfl
  rw [gK, List.drop_eq_getElem_cons (by rw [List.length_map]; omega)]
  simp only [List.take_succ_cons, List.take_zero, List.getElem_map, List.getD, List.getElem?_eq_getElem (show i < tabK.length by omega), Option.getD_some]
theorem gH_take : gH.take 8 = gH := rfl
attribute [go_sem] G0_0 G0_1 gK_len gH_len gK_at gH_take
theorem ca_law01_ShaSteps (l : List AV) : cArgs tab n_law01_ShaSteps l = canonA [] l := rfl
attribute [go_sem] t_law01_ShaSteps ca_law01_ShaSteps
theorem ca_ref01_Made (l : List AV) : cArgs tab n_ref01_Made l = canonA [] l := rfl
attribute [go_sem] t_ref01_Made ca_ref01_Made
theorem ca_ref01_root (l : List AV) : cArgs tab n_ref01_root l = canonA [] l := rfl
attribute [go_sem] t_ref01_root ca_ref01_root
theorem ca_ref01_below (l : List AV) : cArgs tab n_ref01_below l = canonA [] l := rfl
attribute [go_sem] t_ref01_below ca_ref01_below
theorem ca_ref01_times (l : List AV) : cArgs tab n_ref01_times l = canonA [] l := rfl
attribute [go_sem] t_ref01_times ca_ref01_times
theorem ca_sha_Step (l : List AV) : cArgs tab n_sha_Step l = canonA [] l := rfl
attribute [go_sem] t_sha_Step ca_sha_Step
theorem ca_sha_Words (l : List AV) : cArgs tab n_sha_Words l = canonA [] l := rfl
attribute [go_sem] t_sha_Words ca_sha_Words
theorem ca_math_bits_RotateLeft32 (l : List AV) : cArgs tab n_math_bits_RotateLeft32 l = canonA [] l := rfl
attribute [go_sem] t_math_bits_RotateLeft32 ca_math_bits_RotateLeft32
theorem ca_sha_Round (l : List AV) : cArgs tab n_sha_Round l = canonA [] l := rfl
attribute [go_sem] t_sha_Round ca_sha_Round
theorem ca_sha_First (l : List AV) : cArgs tab n_sha_First l = canonA [] l := rfl
attribute [go_sem] t_sha_First ca_sha_First
theorem ca_ref01_Tables_Step (l : List AV) : cArgs tab n_ref01_Tables_Step l = canonA [] l := rfl
attribute [go_sem] t_ref01_Tables_Step ca_ref01_Tables_Step
theorem ca_ref01_Words (l : List AV) : cArgs tab n_ref01_Words l = canonA [] l := rfl
attribute [go_sem] t_ref01_Words ca_ref01_Words
theorem ca_ref01_turn (l : List AV) : cArgs tab n_ref01_turn l = canonA [] l := rfl
attribute [go_sem] t_ref01_turn ca_ref01_turn
theorem ca_ref01_Round (l : List AV) : cArgs tab n_ref01_Round l = canonA [] l := rfl
attribute [go_sem] t_ref01_Round ca_ref01_Round
theorem ca_law01_ShaSums (l : List AV) : cArgs tab n_law01_ShaSums l = canonA [] l := rfl
attribute [go_sem] t_law01_ShaSums ca_law01_ShaSums
theorem ca_sha_Sum (l : List AV) : cArgs tab n_sha_Sum l = canonA [] l := rfl
attribute [go_sem] t_sha_Sum ca_sha_Sum
theorem ca_sha_Tail (l : List AV) : cArgs tab n_sha_Tail l = canonA [] l := rfl
attribute [go_sem] t_sha_Tail ca_sha_Tail
theorem ca_ref01_Tables_Sum (l : List AV) : cArgs tab n_ref01_Tables_Sum l = canonA [] l := rfl
attribute [go_sem] t_ref01_Tables_Sum ca_ref01_Tables_Sum
theorem ca_ref01_Tail (l : List AV) : cArgs tab n_ref01_Tail l = canonA [] l := rfl
attribute [go_sem] t_ref01_Tail ca_ref01_Tail
theorem ca_law01_ShaStays (l : List AV) : cArgs tab n_law01_ShaStays l = canonA [] l := rfl
attribute [go_sem] t_law01_ShaStays ca_law01_ShaStays
theorem ca_law01_ShaGoes (l : List AV) : cArgs tab n_law01_ShaGoes l = canonA [] l := rfl
attribute [go_sem] t_law01_ShaGoes ca_law01_ShaGoes
theorem ca_law03_DigestOf (l : List AV) : cArgs tab n_law03_DigestOf l = canonA [] l := rfl
attribute [go_sem] t_law03_DigestOf ca_law03_DigestOf
theorem ca_law03_up (l : List AV) : cArgs tab n_law03_up l = canonA [] l := rfl
attribute [go_sem] t_law03_up ca_law03_up
theorem ca_digest_Pair (l : List AV) : cArgs tab n_digest_Pair l = canonA [] l := rfl
attribute [go_sem] t_digest_Pair ca_digest_Pair
theorem ca_digest_width (l : List AV) : cArgs tab n_digest_width l = canonA [] l := rfl
attribute [go_sem] t_digest_width ca_digest_width
theorem ca_coder_Bytes (l : List AV) : cArgs tab n_coder_Bytes l = canonA [] l := rfl
attribute [go_sem] t_coder_Bytes ca_coder_Bytes
theorem ca_coder_Number (l : List AV) : cArgs tab n_coder_Number l = canonA [] l := rfl
attribute [go_sem] t_coder_Number ca_coder_Number
theorem ca_slices_Concat_sl_byte_byte (l : List AV) : cArgs tab n_slices_Concat_sl_byte_byte l = canonA [] l := rfl
attribute [go_sem] t_slices_Concat_sl_byte_byte ca_slices_Concat_sl_byte_byte
theorem ca_slices_Grow_sl_byte_byte (l : List AV) : cArgs tab n_slices_Grow_sl_byte_byte l = canonA [true, false] l := rfl
attribute [go_sem] t_slices_Grow_sl_byte_byte ca_slices_Grow_sl_byte_byte
theorem ca_digest_None (l : List AV) : cArgs tab n_digest_None l = canonA [] l := rfl
attribute [go_sem] t_digest_None ca_digest_None
theorem ca_digest_Of (l : List AV) : cArgs tab n_digest_Of l = canonA [] l := rfl
attribute [go_sem] t_digest_Of ca_digest_Of
theorem ca_slices_Clone_sl_byte_byte (l : List AV) : cArgs tab n_slices_Clone_sl_byte_byte l = canonA [] l := rfl
attribute [go_sem] t_slices_Clone_sl_byte_byte ca_slices_Clone_sl_byte_byte
theorem ca_law03_may (l : List AV) : cArgs tab n_law03_may l = canonA [] l := rfl
attribute [go_sem] t_law03_may ca_law03_may
theorem ca_ref03_Of (l : List AV) : cArgs tab n_ref03_Of l = canonA [] l := rfl
attribute [go_sem] t_ref03_Of ca_ref03_Of
theorem ca_law03_DigestStays (l : List AV) : cArgs tab n_law03_DigestStays l = canonA [] l := rfl
attribute [go_sem] t_law03_DigestStays ca_law03_DigestStays
theorem ca_digest_Value (l : List AV) : cArgs tab n_digest_Value l = canonA [] l := rfl
attribute [go_sem] t_digest_Value ca_digest_Value
theorem ca_digest_Node (l : List AV) : cArgs tab n_digest_Node l = canonA [] l := rfl
attribute [go_sem] t_digest_Node ca_digest_Node
theorem kt_law01_ShaSteps_r (l : List AV) : keepT i_law01_ShaSteps_r l = keepT [false, false, false, false, true, false, false, false, false, false, false, false, false, false, false, false, false, false, false, false, false, false, false, false, false, false, false, false, false, false, false, false, false, false, false, false, false, false, false, false] l := rfl
attribute [go_sem] kt_law01_ShaSteps_r
theorem kt_ref01_Made_r (l : List AV) : keepT i_ref01_Made_r l = keepT [true, false, false, false, false, false, false, false, false, false, false, false, false, false, false, false, false, false, false, false, false, false, false, false, false, false, false, false, false, false, false, false, false, false, false, false, false, false, false, false, false, false, false, false, false, false, false, false, false, false, false, false, false, false, false, false, false, false, false, false, false] l := rfl
attribute [go_sem] kt_ref01_Made_r
theorem kt_ref01_Made_j3 (l : List AV) : keepT i_ref01_Made_j3 l = keepT [true, true, true, true, true, true, false, false, false, false, false, false, false, false, false, false, false, false, false, false, false, false, false, false, false, false, false, false, false, false, false, false, false, false, false, false, false, false, false, false, false, false, false, false, false, false, false, false, false, false, false, false, false, false, false, false, false, false, false, false, false] l := rfl
attribute [go_sem] kt_ref01_Made_j3
theorem kt_ref01_Made_k1 (l : List AV) : keepT i_ref01_Made_k1 l = keepT [true, true, true, true, true, true, false, false, false, false, false, false, false, false, false, false, false, false, false, false, false, false, false, false, false, false, false, false, false, false, false, false, false, false, false, false, false, false, false, false, false, false, false, false, false, false, false, false, false, false, false, false, false, false, false, false, false, false, false, false, false] l := rfl
attribute [go_sem] kt_ref01_Made_k1
theorem kt_ref01_Made_j2 (l : List AV) : keepT i_ref01_Made_j2 l = keepT [true, true, true, true, true, false, false, false, false, false, false, false, false, false, false, false, false, false, false, false, false, false, false, false, false, false, false, false, false, false, false, false, false, false, false, false, false, false, false, false, false, false, false, false, false, false, false, false, false, false, false, false, false, false, false, false, false, false, false, false, false] l := rfl
attribute [go_sem] kt_ref01_Made_j2
theorem kt_ref01_Made_j1 (l : List AV) : keepT i_ref01_Made_j1 l = keepT [true, true, true, true, false, false, false, false, false, false, false, false, false, false, false, false, false, false, false, false, false, false, false, false, false, false, false, false, false, false, false, false, false, false, false, false, false, false, false, false, false, false, false, false, false, false, false, false, false, false, false, false, false, false, false, false, false, false, false, false, false] l := rfl
attribute [go_sem] kt_ref01_Made_j1
theorem kt_ref01_Made_k0 (l : List AV) : keepT i_ref01_Made_k0 l = keepT [true, true, true, true, false, false, false, false, false, false, false, false, false, false, false, false, false, false, false, false, false, false, false, false, false, false, false, false, false, false, false, false, false, false, false, false, false, false, false, false, false, false, false, false, false, false, false, false, false, false, false, false, false, false, false, false, false, false, false, false, false] l := rfl
attribute [go_sem] kt_ref01_Made_k0
theorem kt_ref01_Made_j0 (l : List AV) : keepT i_ref01_Made_j0 l = keepT [true, true, true, false, false, false, false, false, false, false, false, false, false, false, false, false, false, false, false, false, false, false, false, false, false, false, false, false, false, false, false, false, false, false, false, false, false, false, false, false, false, false, false, false, false, false, false, false, false, false, false, false, false, false, false, false, false, false, false, false, false] l := rfl
attribute [go_sem] kt_ref01_Made_j0
theorem kt_ref01_Made_j5 (l : List AV) : keepT i_ref01_Made_j5 l = keepT [true, true, true, false, false, false, true, false, false, false, false, false, false, false, false, false, false, false, false, false, false, false, false, false, false, false, false, false, false, false, false, false, false, false, false, false, false, false, false, false, false, false, false, false, false, false, false, false, false, false, false, false, false, false, false, false, false, false, false, false, false] l := rfl
attribute [go_sem] kt_ref01_Made_j5
theorem kt_ref01_Made_k2 (l : List AV) : keepT i_ref01_Made_k2 l = keepT [true, true, true, false, false, false, true, false, false, false, false, false, false, false, false, false, false, false, false, false, false, false, false, false, false, false, false, false, false, false, false, false, false, false, false, false, false, false, false, false, false, false, false, false, false, false, false, false, false, false, false, false, false, false, false, false, false, false, false, false, false] l := rfl
attribute [go_sem] kt_ref01_Made_k2
theorem kt_ref01_Made_j4 (l : List AV) : keepT i_ref01_Made_j4 l = keepT [true, true, true, false, false, false, false, false, false, false, false, false, false, false, false, false, false, false, false, false, false, false, false, false, false, false, false, false, false, false, false, false, false, false, false, false, false, false, false, false, false, false, false, false, false, false, false, false, false, false, false, false, false, false, false, false, false, false, false, false, false] l := rfl
attribute [go_sem] kt_ref01_Made_j4
theorem kt_ref01_Made_j7 (l : List AV) : keepT i_ref01_Made_j7 l = keepT [true, true, true, false, false, false, false, true, false, false, false, false, false, false, false, false, false, false, false, false, false, false, false, false, false, false, false, false, false, false, false, false, false, false, false, false, false, false, false, false, false, false, false, false, false, false, false, false, false, false, false, false, false, false, false, false, false, false, false, false, false] l := rfl
attribute [go_sem] kt_ref01_Made_j7
theorem kt_ref01_Made_k3 (l : List AV) : keepT i_ref01_Made_k3 l = keepT [true, true, true, false, false, false, false, true, false, false, false, false, false, false, false, false, false, false, false, false, false, false, false, false, false, false, false, false, false, false, false, false, false, false, false, false, false, false, false, false, false, false, false, false, false, false, false, false, false, false, false, false, false, false, false, false, false, false, false, false, false] l := rfl
attribute [go_sem] kt_ref01_Made_k3
theorem kt_ref01_Made_j6 (l : List AV) : keepT i_ref01_Made_j6 l = keepT [true, true, false, false, false, false, false, false, false, false, false, false, false, false, false, false, false, false, false, false, false, false, false, false, false, false, false, false, false, false, false, false, false, false, false, false, false, false, false, false, false, false, false, false, false, false, false, false, false, false, false, false, false, false, false, false, false, false, false, false, false] l := rfl
attribute [go_sem] kt_ref01_Made_j6
theorem kt_ref01_root_r (l : List AV) : keepT i_ref01_root_r l = keepT [false, false, false, false, true, false, false, false, false, false, false, false, false, false, false, false, false, false, false, false, false, false, false] l := rfl
attribute [go_sem] kt_ref01_root_r
theorem kt_ref01_root_j1 (l : List AV) : keepT i_ref01_root_j1 l = keepT [true, true, false, false, false, true, true, false, false, false, false, false, false, false, false, false, false, false, false, false, false, false, false] l := rfl
attribute [go_sem] kt_ref01_root_j1
theorem kt_ref01_root_k0 (l : List AV) : keepT i_ref01_root_k0 l = keepT [true, true, false, false, false, true, true, false, false, false, false, false, false, false, false, false, false, false, false, false, false, false, false] l := rfl
attribute [go_sem] kt_ref01_root_k0
theorem kt_ref01_root_j0 (l : List AV) : keepT i_ref01_root_j0 l = keepT [false, false, false, false, false, true, false, false, false, false, false, false, false, false, false, false, false, false, false, false, false, false, false] l := rfl
attribute [go_sem] kt_ref01_root_j0
theorem kt_ref01_below_r (l : List AV) : keepT i_ref01_below_r l = keepT [false, false, false, false, false, false, true, false, false, false, false, false, false, false, false, false, false, false, false, false, false, false, false, false, false, false, false, false, false, false, false, false, false, false, false, false, false, false, false, false, false, false, false, false, false, false, false, false, false, false, false, false, false, false, false, false, false, false, false] l := rfl
attribute [go_sem] kt_ref01_below_r
theorem kt_ref01_below_j1 (l : List AV) : keepT i_ref01_below_j1 l = keepT [false, false, false, false, false, false, false, false, true, false, true, true, false, false, false, false, false, false, false, false, false, false, false, false, false, false, false, false, false, false, false, false, false, false, false, false, false, false, false, false, false, false, false, false, false, false, false, false, false, false, false, false, false, false, false, false, false, false, false] l := rfl
attribute [go_sem] kt_ref01_below_j1
theorem kt_ref01_below_k0 (l : List AV) : keepT i_ref01_below_k0 l = keepT [false, false, false, false, false, false, false, false, true, false, true, true, false, false, false, false, false, false, false, false, false, false, false, false, false, false, false, false, false, false, false, false, false, false, false, false, false, false, false, false, false, false, false, false, false, false, false, false, false, false, false, false, false, false, false, false, false, false, false] l := rfl
attribute [go_sem] kt_ref01_below_k0
theorem kt_ref01_below_j0 (l : List AV) : keepT i_ref01_below_j0 l = keepT [false, false, false, false, false, false, false, false, false, false, false, false, false, false, false, false, false, false, false, false, false, false, false, false, false, false, false, false, false, false, false, false, false, false, false, false, false, false, false, false, false, false, false, false, false, false, false, false, false, false, false, false, false, false, false, false, false, false, false] l := rfl
attribute [go_sem] kt_ref01_below_j0
theorem kt_ref01_times_r (l : List AV) : keepT i_ref01_times_r l = keepT [false, false, false, false, true, false, false, false, false, false, false, false, false, false, false, false, false, false, false, false, false, false, false, false, false, false, false, false, false, false, false, false, false, false, false, false, false, false, false, false, false, false, false, false, false, false, false, false, false, false, false, false, false, false, false, false, false, false, false, false, false, false, false, false, false, false, false, false, false, false, false, false, false, false, false, false, false, false, false, false] l := rfl
attribute [go_sem] kt_ref01_times_r
theorem kt_ref01_times_j3 (l : List AV) : keepT i_ref01_times_j3 l = keepT [true, true, false, false, false, true, true, true, false, false, false, false, false, false, false, false, false, false, false, false, false, false, false, false, false, false, false, false, false, false, false, false, false, false, false, false, false, false, false, false, false, false, false, false, false, false, false, false, false, false, false, false, false, false, false, false, false, false, false, false, false, false, false, false, false, false, false, false, false, false, false, false, false, false, false, false, false, false, false, false] l := rfl
attribute [go_sem] kt_ref01_times_j3
theorem kt_ref01_times_k1 (l : List AV) : keepT i_ref01_times_k1 l = keepT [true, true, false, false, false, true, true, true, false, false, false, false, false, false, false, false, false, false, false, false, false, false, false, false, false, false, false, false, false, false, false, false, false, false, false, false, false, false, false, false, false, false, false, false, false, false, false, false, false, false, false, false, false, false, false, false, false, false, false, false, false, false, false, false, false, false, false, false, false, false, false, false, false, false, false, false, false, false, false, false] l := rfl
attribute [go_sem] kt_ref01_times_k1
theorem kt_ref01_times_j2 (l : List AV) : keepT i_ref01_times_j2 l = keepT [true, true, false, false, false, true, true, false, false, false, false, false, false, false, false, false, false, false, false, false, false, false, false, false, false, false, false, false, false, false, false, false, false, false, false, false, false, false, false, false, false, false, false, false, false, false, false, false, false, false, false, false, false, false, false, false, false, false, false, false, false, false, false, false, false, false, false, false, false, false, false, false, false, false, false, false, false, false, false, false] l := rfl
attribute [go_sem] kt_ref01_times_j2
theorem kt_ref01_times_j1 (l : List AV) : keepT i_ref01_times_j1 l = keepT [true, true, false, false, false, true, true, false, false, false, false, false, false, false, false, false, false, false, false, false, false, false, false, false, false, false, false, false, false, false, false, false, false, false, false, false, false, false, false, false, false, false, false, false, false, false, false, false, false, false, false, false, false, false, false, false, false, false, false, false, false, false, false, false, false, false, false, false, false, false, false, false, false, false, false, false, false, false, false, false] l := rfl
attribute [go_sem] kt_ref01_times_j1
theorem kt_ref01_times_k0 (l : List AV) : keepT i_ref01_times_k0 l = keepT [true, true, false, false, false, true, true, false, false, false, false, false, false, false, false, false, false, false, false, false, false, false, false, false, false, false, false, false, false, false, false, false, false, false, false, false, false, false, false, false, false, false, false, false, false, false, false, false, false, false, false, false, false, false, false, false, false, false, false, false, false, false, false, false, false, false, false, false, false, false, false, false, false, false, false, false, false, false, false, false] l := rfl
attribute [go_sem] kt_ref01_times_k0
theorem kt_ref01_times_j0 (l : List AV) : keepT i_ref01_times_j0 l = keepT [false, false, false, false, false, true, false, false, false, false, false, false, false, false, false, false, false, false, false, false, false, false, false, false, false, false, false, false, false, false, false, false, false, false, false, false, false, false, false, false, false, false, false, false, false, false, false, false, false, false, false, false, false, false, false, false, false, false, false, false, false, false, false, false, false, false, false, false, false, false, false, false, false, false, false, false, false, false, false, false] l := rfl
attribute [go_sem] kt_ref01_times_j0
theorem kt_ref01_times_j5 (l : List AV) : keepT i_ref01_times_j5 l = keepT [false, false, false, false, false, true, false, false, true, false, false, false, false, false, false, false, false, false, false, false, false, false, false, false, false, false, false, false, false, false, false, false, false, false, false, false, false, false, false, false, false, false, false, false, false, false, false, false, false, false, false, false, false, false, false, false, false, false, false, false, false, false, false, false, false, false, false, false, false, false, false, false, false, false, false, false, false, false, false, false] l := rfl
attribute [go_sem] kt_ref01_times_j5
theorem kt_ref01_times_k2 (l : List AV) : keepT i_ref01_times_k2 l = keepT [false, false, false, false, false, true, false, false, true, false, false, false, false, false, false, false, false, false, false, false, false, false, false, false, false, false, false, false, false, false, false, false, false, false, false, false, false, false, false, false, false, false, false, false, false, false, false, false, false, false, false, false, false, false, false, false, false, false, false, false, false, false, false, false, false, false, false, false, false, false, false, false, false, false, false, false, false, false, false, false] l := rfl
attribute [go_sem] kt_ref01_times_k2
theorem kt_ref01_times_j4 (l : List AV) : keepT i_ref01_times_j4 l = keepT [false, false, false, false, false, true, false, false, false, false, false, false, false, false, false, false, false, false, false, false, false, false, false, false, false, false, false, false, false, false, false, false, false, false, false, false, false, false, false, false, false, false, false, false, false, false, false, false, false, false, false, false, false, false, false, false, false, false, false, false, false, false, false, false, false, false, false, false, false, false, false, false, false, false, false, false, false, false, false, false] l := rfl
attribute [go_sem] kt_ref01_times_j4
theorem kt_sha_Step_r (l : List AV) : keepT i_sha_Step_r l = keepT [false, false, false, false, true, true, false, false, false, false, false, false, false, false, false, false, false, false, false, false, false, false, false, false, false, false, false, false, false, false, false, false, false, false, false, false, false, false, false, false, false, false, false, false, false, false, false, false, false] l := rfl
attribute [go_sem] kt_sha_Step_r
theorem kt_sha_Step_j1 (l : List AV) : keepT i_sha_Step_j1 l = keepT [false, false, true, false, true, false, false, false, true, false, false, false, false, false, false, false, false, false, false, false, false, false, true, true, true, false, false, false, false, false, false, false, false, false, false, false, false, false, false, false, false, false, false, false, false, false, false, false, false] l := rfl
attribute [go_sem] kt_sha_Step_j1
theorem kt_sha_Step_k0 (l : List AV) : keepT i_sha_Step_k0 l = keepT [false, false, true, false, true, false, false, false, true, false, false, false, false, false, false, false, false, false, false, false, false, false, true, true, true, false, false, false, false, false, false, false, false, false, false, false, false, false, false, false, false, false, false, false, false, false, false, false, false] l := rfl
attribute [go_sem] kt_sha_Step_k0
theorem kt_sha_Step_j0 (l : List AV) : keepT i_sha_Step_j0 l = keepT [false, false, true, false, true, false, false, false, true, false, false, false, false, false, false, false, false, false, false, false, false, false, false, false, false, false, false, false, false, false, false, false, false, false, false, false, false, false, false, false, false, false, false, false, false, false, false, false, false] l := rfl
attribute [go_sem] kt_sha_Step_j0
theorem kt_sha_Step_j3 (l : List AV) : keepT i_sha_Step_j3 l = keepT [false, false, true, false, true, false, false, false, true, false, false, false, false, false, false, false, false, false, false, false, false, false, false, false, false, false, false, false, false, false, false, false, false, false, false, false, true, false, false, false, false, false, false, false, false, false, false, false, false] l := rfl
attribute [go_sem] kt_sha_Step_j3
theorem kt_sha_Step_k1 (l : List AV) : keepT i_sha_Step_k1 l = keepT [false, false, true, false, true, false, false, false, true, false, false, false, false, false, false, false, false, false, false, false, false, false, false, false, false, false, false, false, false, false, false, false, false, false, false, false, true, false, false, false, false, false, false, false, false, false, false, false, false] l := rfl
attribute [go_sem] kt_sha_Step_k1
theorem kt_sha_Step_j2 (l : List AV) : keepT i_sha_Step_j2 l = keepT [false, false, true, false, true, false, false, false, false, false, false, false, false, false, false, false, false, false, false, false, false, false, false, false, false, false, false, false, false, false, false, false, false, false, false, false, false, false, false, false, false, false, false, false, false, false, false, false, false] l := rfl
attribute [go_sem] kt_sha_Step_j2
theorem kt_sha_Words_r (l : List AV) : keepT i_sha_Words_r l = keepT [false, false, true, true, false, false, false, false, false, false, false, false, false, false, false, false, false, false, false, false, false, false, false, false, false, false, false, false, false, false, false, false, false, false, false, false, false, false, false, false, false, false, false, false, false, false, false, false, false, false, false, false, false, false, false, false, false, false, false, false, false, false, false, false, false, false, false, false, false, false, false, false, false, false, false, false, false, false, false, false, false, false, false, false, false, false, false] l := rfl
attribute [go_sem] kt_sha_Words_r
theorem kt_sha_Words_j1 (l : List AV) : keepT i_sha_Words_j1 l = keepT [false, false, false, false, true, false, false, false, false, false, false, false, false, false, false, false, false, true, true, true, false, false, false, false, false, false, false, false, false, false, false, false, false, false, false, false, false, false, false, false, false, false, false, false, false, false, false, false, false, false, false, false, false, false, false, false, false, false, false, false, false, false, false, false, false, false, false, false, false, false, false, false, false, false, false, false, false, false, false, false, false, false, false, false, false, false, false] l := rfl
attribute [go_sem] kt_sha_Words_j1
theorem kt_sha_Words_k0 (l : List AV) : keepT i_sha_Words_k0 l = keepT [false, false, false, false, true, false, false, false, false, false, false, false, false, false, false, false, false, true, true, true, false, false, false, false, false, false, false, false, false, false, false, false, false, false, false, false, false, false, false, false, false, false, false, false, false, false, false, false, false, false, false, false, false, false, false, false, false, false, false, false, false, false, false, false, false, false, false, false, false, false, false, false, false, false, false, false, false, false, false, false, false, false, false, false, false, false, false] l := rfl
attribute [go_sem] kt_sha_Words_k0
theorem kt_sha_Words_j0 (l : List AV) : keepT i_sha_Words_j0 l = keepT [false, false, false, false, true, false, false, false, false, false, false, false, false, false, false, false, false, false, false, false, false, false, false, false, false, false, false, false, false, false, false, false, false, false, false, false, false, false, false, false, false, false, false, false, false, false, false, false, false, false, false, false, false, false, false, false, false, false, false, false, false, false, false, false, false, false, false, false, false, false, false, false, false, false, false, false, false, false, false, false, false, false, false, false, false, false, false] l := rfl
attribute [go_sem] kt_sha_Words_j0
theorem kt_sha_Words_j3 (l : List AV) : keepT i_sha_Words_j3 l = keepT [false, false, false, false, true, false, false, true, false, false, false, false, false, false, false, false, false, false, false, false, false, false, false, false, false, false, false, false, false, false, false, false, false, false, false, false, false, false, false, false, false, false, false, false, false, false, false, false, false, false, false, false, false, false, false, false, false, false, false, false, false, false, false, false, false, false, false, false, false, false, false, false, false, false, false, false, false, false, false, false, false, false, false, false, false, false, false] l := rfl
attribute [go_sem] kt_sha_Words_j3
theorem kt_sha_Words_k1 (l : List AV) : keepT i_sha_Words_k1 l = keepT [false, false, false, false, true, false, false, true, false, false, false, false, false, false, false, false, false, false, false, false, false, false, false, false, false, false, false, false, false, false, false, false, false, false, false, false, false, false, false, false, false, false, false, false, false, false, false, false, false, false, false, false, false, false, false, false, false, false, false, false, false, false, false, false, false, false, false, false, false, false, false, false, false, false, false, false, false, false, false, false, false, false, false, false, false, false, false] l := rfl
attribute [go_sem] kt_sha_Words_k1
theorem kt_sha_Words_j2 (l : List AV) : keepT i_sha_Words_j2 l = keepT [false, false, false, false, true, false, false, false, false, false, false, false, false, false, false, false, false, false, false, false, false, false, false, false, false, false, false, false, false, false, false, false, false, false, false, false, false, false, false, false, false, false, false, false, false, false, false, false, false, false, false, false, false, false, false, false, false, false, false, false, false, false, false, false, false, false, false, false, false, false, false, false, false, false, false, false, false, false, false, false, false, false, false, false, false, false, false] l := rfl
attribute [go_sem] kt_sha_Words_j2
theorem kt_math_bits_RotateLeft32_r (l : List AV) : keepT i_math_bits_RotateLeft32_r l = keepT [false, false, false, false, true, false, false, false, false, false, false, false, false, false, false, false, false] l := rfl
attribute [go_sem] kt_math_bits_RotateLeft32_r
theorem kt_sha_Round_r (l : List AV) : keepT i_sha_Round_r l = keepT [false, false, false, false, false, false, true, false, false, false, false, false, false, false, false, false, false, false, false, false, false, false, false, false, false, false, false, false, false, false, false, false, false, false, false, false, false, false, false, false, false, false, false, false, false, false, false, false, false, false, false, false, false, false, false, false, false, false, false, false, false, false, false, false, false, false, false, false, false, false, false, false, false, false, false, false, false, false, false, false, false, false, false, false, false] l := rfl
attribute [go_sem] kt_sha_Round_r
theorem kt_sha_First_r (l : List AV) : keepT i_sha_First_r l = keepT [true, false] l := rfl
attribute [go_sem] kt_sha_First_r
theorem kt_ref01_Tables_Step_r (l : List AV) : keepT i_ref01_Tables_Step_r l = keepT [false, false, false, false, false, false, true, false, false, false, false, false, false, false, false, false, false, false, false, false, false, false, false, false, false, false, false, false, false, false, false, false, false, false, false, false, false, false, false, false, false, false, false] l := rfl
attribute [go_sem] kt_ref01_Tables_Step_r
theorem kt_ref01_Tables_Step_j1 (l : List AV) : keepT i_ref01_Tables_Step_j1 l = keepT [false, false, false, true, true, false, true, true, true, true, false, false, false, false, false, false, false, false, false, false, false, false, false, false, false, false, false, false, false, false, false, false, false, false, false, false, false, false, false, false, false, false, false] l := rfl
attribute [go_sem] kt_ref01_Tables_Step_j1
theorem kt_ref01_Tables_Step_k0 (l : List AV) : keepT i_ref01_Tables_Step_k0 l = keepT [false, false, false, true, true, false, true, true, true, true, false, false, false, false, false, false, false, false, false, false, false, false, false, false, false, false, false, false, false, false, false, false, false, false, false, false, false, false, false, false, false, false, false] l := rfl
attribute [go_sem] kt_ref01_Tables_Step_k0
theorem kt_ref01_Tables_Step_j0 (l : List AV) : keepT i_ref01_Tables_Step_j0 l = keepT [false, false, false, false, true, false, true, false, true, false, false, false, false, false, false, false, false, false, false, false, false, false, false, false, false, false, false, false, false, false, false, false, false, false, false, false, false, false, false, false, false, false, false] l := rfl
attribute [go_sem] kt_ref01_Tables_Step_j0
theorem kt_ref01_Tables_Step_j3 (l : List AV) : keepT i_ref01_Tables_Step_j3 l = keepT [false, false, false, false, true, false, true, false, true, false, true, false, false, false, false, false, false, false, false, false, false, false, false, false, false, false, false, false, false, false, false, false, false, false, false, false, false, false, false, false, false, false, false] l := rfl
attribute [go_sem] kt_ref01_Tables_Step_j3
theorem kt_ref01_Tables_Step_k1 (l : List AV) : keepT i_ref01_Tables_Step_k1 l = keepT [false, false, false, false, true, false, true, false, true, false, true, false, false, false, false, false, false, false, false, false, false, false, false, false, false, false, false, false, false, false, false, false, false, false, false, false, false, false, false, false, false, false, false] l := rfl
attribute [go_sem] kt_ref01_Tables_Step_k1
theorem kt_ref01_Tables_Step_j2 (l : List AV) : keepT i_ref01_Tables_Step_j2 l = keepT [false, false, false, false, false, false, true, false, true, false, false, false, false, false, false, false, false, false, false, false, false, false, false, false, false, false, false, false, false, false, false, false, false, false, false, false, false, false, false, false, false, false, false] l := rfl
attribute [go_sem] kt_ref01_Tables_Step_j2
theorem kt_ref01_Words_r (l : List AV) : keepT i_ref01_Words_r l = keepT [false, false, true, false, false, false, false, false, false, false, false, false, false, false, false, false, false, false, false, false, false, false, false, false, false, false, false, false, false, false, false, false, false, false, false, false, false, false, false, false, false, false, false, false, false, false, false, false, false, false, false, false, false, false, false, false, false, false, false, false, false, false, false, false, false, false, false, false, false, false, false, false, false, false, false, false, false, false, false, false, false, false, false, false, false, false, false, false, false, false, false, false, false, false, false, false] l := rfl
attribute [go_sem] kt_ref01_Words_r
theorem kt_ref01_Words_j3 (l : List AV) : keepT i_ref01_Words_j3 l = keepT [true, false, false, true, true, true, true, false, false, false, false, false, false, false, false, false, false, false, false, false, false, false, false, false, false, false, false, false, false, false, false, false, false, false, false, false, false, false, false, false, false, false, false, false, false, false, false, false, false, false, false, false, false, false, false, false, false, false, false, false, false, false, false, false, false, false, false, false, false, false, false, false, false, false, false, false, false, false, false, false, false, false, false, false, false, false, false, false, false, false, false, false, false, false, false, false] l := rfl
attribute [go_sem] kt_ref01_Words_j3
theorem kt_ref01_Words_k1 (l : List AV) : keepT i_ref01_Words_k1 l = keepT [true, false, false, true, true, true, true, false, false, false, false, false, false, false, false, false, false, false, false, false, false, false, false, false, false, false, false, false, false, false, false, false, false, false, false, false, false, false, false, false, false, false, false, false, false, false, false, false, false, false, false, false, false, false, false, false, false, false, false, false, false, false, false, false, false, false, false, false, false, false, false, false, false, false, false, false, false, false, false, false, false, false, false, false, false, false, false, false, false, false, false, false, false, false, false, false] l := rfl
attribute [go_sem] kt_ref01_Words_k1
theorem kt_ref01_Words_j2 (l : List AV) : keepT i_ref01_Words_j2 l = keepT [true, false, false, true, true, true, false, false, false, false, false, false, false, false, false, false, false, false, false, false, false, false, false, false, false, false, false, false, false, false, false, false, false, false, false, false, false, false, false, false, false, false, false, false, false, false, false, false, false, false, false, false, false, false, false, false, false, false, false, false, false, false, false, false, false, false, false, false, false, false, false, false, false, false, false, false, false, false, false, false, false, false, false, false, false, false, false, false, false, false, false, false, false, false, false, false] l := rfl
attribute [go_sem] kt_ref01_Words_j2
theorem kt_ref01_Words_j1 (l : List AV) : keepT i_ref01_Words_j1 l = keepT [true, false, false, true, true, false, false, false, false, false, false, false, false, false, false, false, false, false, false, false, false, false, false, false, false, false, false, false, false, false, false, false, false, false, false, false, false, false, false, false, false, false, false, false, false, false, false, false, false, false, false, false, false, false, false, false, false, false, false, false, false, false, false, false, false, false, false, false, false, false, false, false, false, false, false, false, false, false, false, false, false, false, false, false, false, false, false, false, false, false, false, false, false, false, false, false] l := rfl
attribute [go_sem] kt_ref01_Words_j1
theorem kt_ref01_Words_k0 (l : List AV) : keepT i_ref01_Words_k0 l = keepT [true, false, false, true, true, false, false, false, false, false, false, false, false, false, false, false, false, false, false, false, false, false, false, false, false, false, false, false, false, false, false, false, false, false, false, false, false, false, false, false, false, false, false, false, false, false, false, false, false, false, false, false, false, false, false, false, false, false, false, false, false, false, false, false, false, false, false, false, false, false, false, false, false, false, false, false, false, false, false, false, false, false, false, false, false, false, false, false, false, false, false, false, false, false, false, false] l := rfl
attribute [go_sem] kt_ref01_Words_k0
theorem kt_ref01_Words_j0 (l : List AV) : keepT i_ref01_Words_j0 l = keepT [false, false, false, true, false, false, false, false, false, false, false, false, false, false, false, false, false, false, false, false, false, false, false, false, false, false, false, false, false, false, false, false, false, false, false, false, false, false, false, false, false, false, false, false, false, false, false, false, false, false, false, false, false, false, false, false, false, false, false, false, false, false, false, false, false, false, false, false, false, false, false, false, false, false, false, false, false, false, false, false, false, false, false, false, false, false, false, false, false, false, false, false, false, false, false, false] l := rfl
attribute [go_sem] kt_ref01_Words_j0
theorem kt_ref01_Words_j5 (l : List AV) : keepT i_ref01_Words_j5 l = keepT [false, false, false, true, false, false, false, true, false, false, false, false, false, false, false, false, false, false, false, false, false, false, false, false, false, false, false, false, false, false, false, false, false, false, false, false, false, false, false, false, false, false, false, false, false, false, false, false, false, false, false, false, false, false, false, false, false, false, false, false, false, false, false, false, false, false, false, false, false, false, false, false, false, false, false, false, false, false, false, false, false, false, false, false, false, false, false, false, false, false, false, false, false, false, false, false] l := rfl
attribute [go_sem] kt_ref01_Words_j5
theorem kt_ref01_Words_k2 (l : List AV) : keepT i_ref01_Words_k2 l = keepT [false, false, false, true, false, false, false, true, false, false, false, false, false, false, false, false, false, false, false, false, false, false, false, false, false, false, false, false, false, false, false, false, false, false, false, false, false, false, false, false, false, false, false, false, false, false, false, false, false, false, false, false, false, false, false, false, false, false, false, false, false, false, false, false, false, false, false, false, false, false, false, false, false, false, false, false, false, false, false, false, false, false, false, false, false, false, false, false, false, false, false, false, false, false, false, false] l := rfl
attribute [go_sem] kt_ref01_Words_k2
theorem kt_ref01_Words_j4 (l : List AV) : keepT i_ref01_Words_j4 l = keepT [false, false, false, true, false, false, false, false, false, false, false, false, false, false, false, false, false, false, false, false, false, false, false, false, false, false, false, false, false, false, false, false, false, false, false, false, false, false, false, false, false, false, false, false, false, false, false, false, false, false, false, false, false, false, false, false, false, false, false, false, false, false, false, false, false, false, false, false, false, false, false, false, false, false, false, false, false, false, false, false, false, false, false, false, false, false, false, false, false, false, false, false, false, false, false, false] l := rfl
attribute [go_sem] kt_ref01_Words_j4
theorem kt_ref01_turn_r (l : List AV) : keepT i_ref01_turn_r l = keepT [false, false, false, false, true, false, false, false, false, false, false, false, false] l := rfl
attribute [go_sem] kt_ref01_turn_r
theorem kt_ref01_Round_r (l : List AV) : keepT i_ref01_Round_r l = keepT [false, false, false, false, false, false, true, false, false, false, false, false, false, false, false, false, false, false, false, false, false, false, false, false, false, false, false, false, false, false, false, false, false, false, false, false, false, false, false, false, false, false, false, false, false, false, false, false, false, false, false, false, false, false, false, false, false, false, false, false, false, false, false, false, false, false, false, false, false, false, false, false, false, false, false, false, false, false, false, false, false, false, false] l := rfl
attribute [go_sem] kt_ref01_Round_r
theorem kt_law01_ShaSums_r (l : List AV) : keepT i_law01_ShaSums_r l = keepT [false, false, true, false, false, false, false, false, false, false, false, false, false, false, false, false, false, false, false, false, false, false, false, false, false] l := rfl
attribute [go_sem] kt_law01_ShaSums_r
theorem kt_sha_Sum_r (l : List AV) : keepT i_sha_Sum_r l = keepT [false, false, true, false, false, false, false, false, false, false, false, false, false, false, false, false, false, false, false, false, false, false, false, false, false, false, false, false, false, false, false, false, false, false, false, false, false, false, false, false, false, false, false, false, false, false, false, false, false, false, false, false, false, false, false, false, false, false, false, false, false, false, false, false, false, false, false, false, false, false, false, false, false, false, false, false] l := rfl
attribute [go_sem] kt_sha_Sum_r
theorem kt_sha_Sum_j3 (l : List AV) : keepT i_sha_Sum_j3 l = keepT [false, false, false, false, false, false, false, true, false, true, false, false, false, false, false, false, false, false, false, false, false, false, false, false, false, false, false, false, false, false, false, false, false, false, false, false, false, true, true, false, false, false, false, false, false, false, false, false, false, false, false, false, false, false, false, false, false, false, false, false, false, false, false, false, false, false, false, false, false, false, false, false, false, false, false, false] l := rfl
attribute [go_sem] kt_sha_Sum_j3
theorem kt_sha_Sum_k1 (l : List AV) : keepT i_sha_Sum_k1 l = keepT [false, false, false, false, false, false, false, true, false, true, false, false, false, false, false, false, false, false, false, false, false, false, false, false, false, false, false, false, false, false, false, false, false, false, false, false, false, true, true, false, false, false, false, false, false, false, false, false, false, false, false, false, false, false, false, false, false, false, false, false, false, false, false, false, false, false, false, false, false, false, false, false, false, false, false, false] l := rfl
attribute [go_sem] kt_sha_Sum_k1
theorem kt_sha_Sum_j2 (l : List AV) : keepT i_sha_Sum_j2 l = keepT [false, false, false, false, false, false, false, true, false, false, false, false, false, false, false, false, false, false, false, false, false, false, false, false, false, false, false, false, false, false, false, false, false, false, false, false, false, true, true, false, false, false, false, false, false, false, false, false, false, false, false, false, false, false, false, false, false, false, false, false, false, false, false, false, false, false, false, false, false, false, false, false, false, false, false, false] l := rfl
attribute [go_sem] kt_sha_Sum_j2
theorem kt_sha_Sum_j1 (l : List AV) : keepT i_sha_Sum_j1 l = keepT [false, false, false, false, false, false, false, true, false, false, false, false, false, false, false, false, false, false, false, false, false, false, false, false, false, false, false, false, false, false, false, false, false, false, false, false, false, true, true, false, false, false, false, false, false, false, false, false, false, false, false, false, false, false, false, false, false, false, false, false, false, false, false, false, false, false, false, false, false, false, false, false, false, false, false, false] l := rfl
attribute [go_sem] kt_sha_Sum_j1
theorem kt_sha_Sum_k0 (l : List AV) : keepT i_sha_Sum_k0 l = keepT [false, false, false, false, false, false, false, true, false, false, false, false, false, false, false, false, false, false, false, false, false, false, false, false, false, false, false, false, false, false, false, false, false, false, false, false, false, true, true, false, false, false, false, false, false, false, false, false, false, false, false, false, false, false, false, false, false, false, false, false, false, false, false, false, false, false, false, false, false, false, false, false, false, false, false, false] l := rfl
attribute [go_sem] kt_sha_Sum_k0
theorem kt_sha_Sum_j0 (l : List AV) : keepT i_sha_Sum_j0 l = keepT [false, false, false, false, false, false, false, true, false, false, false, false, false, false, false, false, false, false, false, false, false, false, false, false, false, false, false, false, false, false, false, false, false, false, false, false, false, false, false, false, false, false, false, false, false, false, false, false, false, false, false, false, false, false, false, false, false, false, false, false, false, false, false, false, false, false, false, false, false, false, false, false, false, false, false, false] l := rfl
attribute [go_sem] kt_sha_Sum_j0
theorem kt_sha_Sum_j5 (l : List AV) : keepT i_sha_Sum_j5 l = keepT [false, false, false, false, false, false, false, false, false, false, true, false, false, false, false, false, false, false, false, false, false, false, false, false, false, false, false, false, false, false, false, false, false, false, false, false, false, false, false, false, false, false, false, false, false, false, false, false, false, false, false, false, false, false, false, false, true, true, false, false, false, false, false, false, false, false, false, false, false, false, false, false, false, false, false, false] l := rfl
attribute [go_sem] kt_sha_Sum_j5
theorem kt_sha_Sum_k2 (l : List AV) : keepT i_sha_Sum_k2 l = keepT [false, false, false, false, false, false, false, false, false, false, true, false, false, false, false, false, false, false, false, false, false, false, false, false, false, false, false, false, false, false, false, false, false, false, false, false, false, false, false, false, false, false, false, false, false, false, false, false, false, false, false, false, false, false, false, false, true, true, false, false, false, false, false, false, false, false, false, false, false, false, false, false, false, false, false, false] l := rfl
attribute [go_sem] kt_sha_Sum_k2
theorem kt_sha_Sum_j4 (l : List AV) : keepT i_sha_Sum_j4 l = keepT [false, false, false, false, false, false, false, false, false, false, true, false, false, false, false, false, false, false, false, false, false, false, false, false, false, false, false, false, false, false, false, false, false, false, false, false, false, false, false, false, false, false, false, false, false, false, false, false, false, false, false, false, false, false, false, false, false, false, false, false, false, false, false, false, false, false, false, false, false, false, false, false, false, false, false, false] l := rfl
attribute [go_sem] kt_sha_Sum_j4
theorem kt_sha_Tail_r (l : List AV) : keepT i_sha_Tail_r l = keepT [false, false, true, true, false, false, false, false, false, false, false, false, false, false, false, false, false, false, false, false, false, false, false, false, false, false, false, false, false, false, false, false, false, false, false, false, false] l := rfl
attribute [go_sem] kt_sha_Tail_r
theorem kt_sha_Tail_j1 (l : List AV) : keepT i_sha_Tail_j1 l = keepT [true, false, false, false, true, false, false, false, false, false, false, false, false, false, false, false, false, false, false, false, false, false, false, false, false, false, false, false, false, false, false, false, false, false, false, false, false] l := rfl
attribute [go_sem] kt_sha_Tail_j1
theorem kt_sha_Tail_k0 (l : List AV) : keepT i_sha_Tail_k0 l = keepT [true, false, false, false, true, false, false, false, false, false, false, false, false, false, false, false, false, false, false, false, false, false, false, false, false, false, false, false, false, false, false, false, false, false, false, false, false] l := rfl
attribute [go_sem] kt_sha_Tail_k0
theorem kt_sha_Tail_j0 (l : List AV) : keepT i_sha_Tail_j0 l = keepT [true, false, false, false, true, false, false, false, false, false, false, false, false, false, false, false, false, false, false, false, false, false, false, false, false, false, false, false, false, false, false, false, false, false, false, false, false] l := rfl
attribute [go_sem] kt_sha_Tail_j0
theorem kt_sha_Tail_j3 (l : List AV) : keepT i_sha_Tail_j3 l = keepT [true, false, false, false, true, true, false, false, false, false, false, false, false, false, false, false, false, false, false, false, false, false, false, false, false, false, false, false, false, false, false, false, false, false, false, false, false] l := rfl
attribute [go_sem] kt_sha_Tail_j3
theorem kt_sha_Tail_k1 (l : List AV) : keepT i_sha_Tail_k1 l = keepT [true, false, false, false, true, true, false, false, false, false, false, false, false, false, false, false, false, false, false, false, false, false, false, false, false, false, false, false, false, false, false, false, false, false, false, false, false] l := rfl
attribute [go_sem] kt_sha_Tail_k1
theorem kt_sha_Tail_j2 (l : List AV) : keepT i_sha_Tail_j2 l = keepT [false, false, false, false, true, false, false, false, false, false, false, false, false, false, false, false, false, false, false, false, false, false, false, false, false, false, false, false, false, false, false, false, false, false, false, false, false] l := rfl
attribute [go_sem] kt_sha_Tail_j2
theorem kt_ref01_Tables_Sum_r (l : List AV) : keepT i_ref01_Tables_Sum_r l = keepT [false, false, false, false, true, false, false, false, false, false, false, false, false, false, false, false, false, false, false, false, false, false, false, false, false, false, false, false, false, false, false, false, false, false, false, false, false, false, false, false, false, false, false, false, false, false, false, false, false, false, false, false, false] l := rfl
attribute [go_sem] kt_ref01_Tables_Sum_r
theorem kt_ref01_Tables_Sum_j1 (l : List AV) : keepT i_ref01_Tables_Sum_j1 l = keepT [false, false, true, false, false, true, true, true, false, false, false, false, false, false, false, false, false, false, false, false, false, false, false, false, false, false, false, false, false, false, false, false, false, false, false, false, false, false, false, false, false, false, false, false, false, false, false, false, false, false, false, false, false] l := rfl
attribute [go_sem] kt_ref01_Tables_Sum_j1
theorem kt_ref01_Tables_Sum_k0 (l : List AV) : keepT i_ref01_Tables_Sum_k0 l = keepT [false, false, true, false, false, true, true, true, false, false, false, false, false, false, false, false, false, false, false, false, false, false, false, false, false, false, false, false, false, false, false, false, false, false, false, false, false, false, false, false, false, false, false, false, false, false, false, false, false, false, false, false, false] l := rfl
attribute [go_sem] kt_ref01_Tables_Sum_k0
theorem kt_ref01_Tables_Sum_j0 (l : List AV) : keepT i_ref01_Tables_Sum_j0 l = keepT [false, false, false, false, false, false, true, false, false, false, false, false, false, false, false, false, false, false, false, false, false, false, false, false, false, false, false, false, false, false, false, false, false, false, false, false, false, false, false, false, false, false, false, false, false, false, false, false, false, false, false, false, false] l := rfl
attribute [go_sem] kt_ref01_Tables_Sum_j0
theorem kt_ref01_Tables_Sum_j3 (l : List AV) : keepT i_ref01_Tables_Sum_j3 l = keepT [false, false, false, false, false, false, true, false, true, true, false, false, false, false, false, false, false, false, false, false, false, false, false, false, false, false, false, false, false, false, false, false, false, false, false, false, false, false, false, false, false, false, false, false, false, false, false, false, false, false, false, false, false] l := rfl
attribute [go_sem] kt_ref01_Tables_Sum_j3
theorem kt_ref01_Tables_Sum_k1 (l : List AV) : keepT i_ref01_Tables_Sum_k1 l = keepT [false, false, false, false, false, false, true, false, true, true, false, false, false, false, false, false, false, false, false, false, false, false, false, false, false, false, false, false, false, false, false, false, false, false, false, false, false, false, false, false, false, false, false, false, false, false, false, false, false, false, false, false, false] l := rfl
attribute [go_sem] kt_ref01_Tables_Sum_k1
theorem kt_ref01_Tables_Sum_j2 (l : List AV) : keepT i_ref01_Tables_Sum_j2 l = keepT [false, false, false, false, false, false, false, false, true, false, false, false, false, false, false, false, false, false, false, false, false, false, false, false, false, false, false, false, false, false, false, false, false, false, false, false, false, false, false, false, false, false, false, false, false, false, false, false, false, false, false, false, false] l := rfl
attribute [go_sem] kt_ref01_Tables_Sum_j2
theorem kt_ref01_Tail_r (l : List AV) : keepT i_ref01_Tail_r l = keepT [false, false, true, false, false, false, false, false, false, false, false, false, false, false, false, false, false, false, false, false, false, false, false, false, false, false, false, false, false, false, false, false, false, false, false, false] l := rfl
attribute [go_sem] kt_ref01_Tail_r
theorem kt_ref01_Tail_j1 (l : List AV) : keepT i_ref01_Tail_j1 l = keepT [true, false, false, true, false, false, false, false, false, false, false, false, false, false, false, false, false, false, false, false, false, false, false, false, false, false, false, false, false, false, false, false, false, false, false, false] l := rfl
attribute [go_sem] kt_ref01_Tail_j1
theorem kt_ref01_Tail_k0 (l : List AV) : keepT i_ref01_Tail_k0 l = keepT [true, false, false, true, false, false, false, false, false, false, false, false, false, false, false, false, false, false, false, false, false, false, false, false, false, false, false, false, false, false, false, false, false, false, false, false] l := rfl
attribute [go_sem] kt_ref01_Tail_k0
theorem kt_ref01_Tail_j0 (l : List AV) : keepT i_ref01_Tail_j0 l = keepT [true, false, false, true, false, false, false, false, false, false, false, false, false, false, false, false, false, false, false, false, false, false, false, false, false, false, false, false, false, false, false, false, false, false, false, false] l := rfl
attribute [go_sem] kt_ref01_Tail_j0
theorem kt_ref01_Tail_j3 (l : List AV) : keepT i_ref01_Tail_j3 l = keepT [false, false, false, true, true, true, true, false, false, false, false, false, false, false, false, false, false, false, false, false, false, false, false, false, false, false, false, false, false, false, false, false, false, false, false, false] l := rfl
attribute [go_sem] kt_ref01_Tail_j3
theorem kt_ref01_Tail_k1 (l : List AV) : keepT i_ref01_Tail_k1 l = keepT [false, false, false, true, true, true, true, false, false, false, false, false, false, false, false, false, false, false, false, false, false, false, false, false, false, false, false, false, false, false, false, false, false, false, false, false] l := rfl
attribute [go_sem] kt_ref01_Tail_k1
theorem kt_ref01_Tail_j2 (l : List AV) : keepT i_ref01_Tail_j2 l = keepT [false, false, false, true, true, false, false, false, false, false, false, false, false, false, false, false, false, false, false, false, false, false, false, false, false, false, false, false, false, false, false, false, false, false, false, false] l := rfl
attribute [go_sem] kt_ref01_Tail_j2
theorem kt_law01_ShaStays_r (l : List AV) : keepT i_law01_ShaStays_r l = keepT [false, false, false, false, true, false, false, false, false, false, false, false, false, false, false, false, false, false, false, false, false, false, false, false, false, false, false, false, false, false, false, false, false, false, false, false, false, false, false, false, false, false, false, false, false, false, false, false, false, false, false, false, false, false, false, false, false, false, false, false, false, false, false, false, false, false, false, false, false, false, false, false, false, false, false, false, false, false, false, false, false, false, false, false, false, false, false, false, false, false, false] l := rfl
attribute [go_sem] kt_law01_ShaStays_r
theorem kt_law01_ShaStays_j1 (l : List AV) : keepT i_law01_ShaStays_j1 l = keepT [true, false, false, true, false, true, true, true, false, false, false, false, false, false, false, false, false, false, false, false, false, false, false, false, false, false, false, false, false, false, false, false, false, false, false, false, false, false, false, false, false, false, false, false, false, false, false, false, false, false, false, false, false, false, false, false, false, false, false, false, false, false, false, false, false, false, false, false, false, false, false, false, false, false, false, false, false, false, false, false, false, false, false, false, false, false, false, false, false, false, false] l := rfl
attribute [go_sem] kt_law01_ShaStays_j1
theorem kt_law01_ShaStays_k0 (l : List AV) : keepT i_law01_ShaStays_k0 l = keepT [true, false, false, true, false, true, true, true, false, false, false, false, false, false, false, false, false, false, false, false, false, false, false, false, false, false, false, false, false, false, false, false, false, false, false, false, false, false, false, false, false, false, false, false, false, false, false, false, false, false, false, false, false, false, false, false, false, false, false, false, false, false, false, false, false, false, false, false, false, false, false, false, false, false, false, false, false, false, false, false, false, false, false, false, false, false, false, false, false, false, false] l := rfl
attribute [go_sem] kt_law01_ShaStays_k0
theorem kt_law01_ShaStays_j0 (l : List AV) : keepT i_law01_ShaStays_j0 l = keepT [true, false, false, true, false, false, true, false, false, false, false, false, false, false, false, false, false, false, false, false, false, false, false, false, false, false, false, false, false, false, false, false, false, false, false, false, false, false, false, false, false, false, false, false, false, false, false, false, false, false, false, false, false, false, false, false, false, false, false, false, false, false, false, false, false, false, false, false, false, false, false, false, false, false, false, false, false, false, false, false, false, false, false, false, false, false, false, false, false, false, false] l := rfl
attribute [go_sem] kt_law01_ShaStays_j0
theorem kt_law01_ShaStays_j3 (l : List AV) : keepT i_law01_ShaStays_j3 l = keepT [false, false, false, true, false, false, true, false, true, true, true, false, false, false, false, false, false, false, false, false, false, false, false, false, false, false, false, false, false, false, false, false, false, false, false, false, false, false, false, false, false, false, false, false, false, false, false, false, false, false, false, false, false, false, false, false, false, false, false, false, false, false, false, false, false, false, false, false, false, false, false, false, false, false, false, false, false, false, false, false, false, false, false, false, false, false, false, false, false, false, false] l := rfl
attribute [go_sem] kt_law01_ShaStays_j3
theorem kt_law01_ShaStays_k1 (l : List AV) : keepT i_law01_ShaStays_k1 l = keepT [false, false, false, true, false, false, true, false, true, true, true, false, false, false, false, false, false, false, false, false, false, false, false, false, false, false, false, false, false, false, false, false, false, false, false, false, false, false, false, false, false, false, false, false, false, false, false, false, false, false, false, false, false, false, false, false, false, false, false, false, false, false, false, false, false, false, false, false, false, false, false, false, false, false, false, false, false, false, false, false, false, false, false, false, false, false, false, false, false, false, false] l := rfl
attribute [go_sem] kt_law01_ShaStays_k1
theorem kt_law01_ShaStays_j2 (l : List AV) : keepT i_law01_ShaStays_j2 l = keepT [false, false, false, true, false, false, true, false, true, true, false, false, false, false, false, false, false, false, false, false, false, false, false, false, false, false, false, false, false, false, false, false, false, false, false, false, false, false, false, false, false, false, false, false, false, false, false, false, false, false, false, false, false, false, false, false, false, false, false, false, false, false, false, false, false, false, false, false, false, false, false, false, false, false, false, false, false, false, false, false, false, false, false, false, false, false, false, false, false, false, false] l := rfl
attribute [go_sem] kt_law01_ShaStays_j2
theorem kt_law01_ShaStays_j5 (l : List AV) : keepT i_law01_ShaStays_j5 l = keepT [false, false, false, true, false, false, true, false, true, true, false, true, true, true, false, false, false, false, false, false, false, false, false, false, false, false, false, false, false, false, false, false, false, false, false, false, false, false, false, false, false, false, false, false, false, false, false, false, false, false, false, false, false, false, false, false, false, false, false, false, false, false, false, false, false, false, false, false, false, false, false, false, false, false, false, false, false, false, false, false, false, false, false, false, false, false, false, false, false, false, false] l := rfl
attribute [go_sem] kt_law01_ShaStays_j5
theorem kt_law01_ShaStays_k2 (l : List AV) : keepT i_law01_ShaStays_k2 l = keepT [false, false, false, true, false, false, true, false, true, true, false, true, true, true, false, false, false, false, false, false, false, false, false, false, false, false, false, false, false, false, false, false, false, false, false, false, false, false, false, false, false, false, false, false, false, false, false, false, false, false, false, false, false, false, false, false, false, false, false, false, false, false, false, false, false, false, false, false, false, false, false, false, false, false, false, false, false, false, false, false, false, false, false, false, false, false, false, false, false, false, false] l := rfl
attribute [go_sem] kt_law01_ShaStays_k2
theorem kt_law01_ShaStays_j4 (l : List AV) : keepT i_law01_ShaStays_j4 l = keepT [false, false, false, false, false, false, true, false, true, false, false, true, true, false, false, false, false, false, false, false, false, false, false, false, false, false, false, false, false, false, false, false, false, false, false, false, false, false, false, false, false, false, false, false, false, false, false, false, false, false, false, false, false, false, false, false, false, false, false, false, false, false, false, false, false, false, false, false, false, false, false, false, false, false, false, false, false, false, false, false, false, false, false, false, false, false, false, false, false, false, false] l := rfl
attribute [go_sem] kt_law01_ShaStays_j4
theorem kt_law01_ShaGoes_r (l : List AV) : keepT i_law01_ShaGoes_r l = keepT [false, false, true, false, false, false, false, false, false, false, false, false, false, false, false, false, false, false, false, false, false, false, false, false, false, false, false, false, false, false, false, false, false, false, false, false, false, false, false, false, false, false, false, false, false, false, false, false, false, false, false, false, false, false, false, false, false, false, false, false, false, false, false, false, false, false, false, false, false, false, false, false, false, false, false, false, false, false, false, false, false] l := rfl
attribute [go_sem] kt_law01_ShaGoes_r
theorem kt_law01_ShaGoes_j1 (l : List AV) : keepT i_law01_ShaGoes_j1 l = keepT [true, false, false, false, false, true, true, true, false, false, false, false, false, false, false, false, false, false, false, false, false, false, false, false, false, false, false, false, false, false, false, false, false, false, false, false, false, false, false, false, false, false, false, false, false, false, false, false, false, false, false, false, false, false, false, false, false, false, false, false, false, false, false, false, false, false, false, false, false, false, false, false, false, false, false, false, false, false, false, false, false] l := rfl
attribute [go_sem] kt_law01_ShaGoes_j1
theorem kt_law01_ShaGoes_k0 (l : List AV) : keepT i_law01_ShaGoes_k0 l = keepT [true, false, false, false, false, true, true, true, false, false, false, false, false, false, false, false, false, false, false, false, false, false, false, false, false, false, false, false, false, false, false, false, false, false, false, false, false, false, false, false, false, false, false, false, false, false, false, false, false, false, false, false, false, false, false, false, false, false, false, false, false, false, false, false, false, false, false, false, false, false, false, false, false, false, false, false, false, false, false, false, false] l := rfl
attribute [go_sem] kt_law01_ShaGoes_k0
theorem kt_law01_ShaGoes_j0 (l : List AV) : keepT i_law01_ShaGoes_j0 l = keepT [true, false, false, false, false, true, true, false, false, false, false, false, false, false, false, false, false, false, false, false, false, false, false, false, false, false, false, false, false, false, false, false, false, false, false, false, false, false, false, false, false, false, false, false, false, false, false, false, false, false, false, false, false, false, false, false, false, false, false, false, false, false, false, false, false, false, false, false, false, false, false, false, false, false, false, false, false, false, false, false, false] l := rfl
attribute [go_sem] kt_law01_ShaGoes_j0
theorem kt_law01_ShaGoes_j3 (l : List AV) : keepT i_law01_ShaGoes_j3 l = keepT [false, false, false, false, false, false, true, false, false, false, true, true, false, false, false, false, false, false, false, false, false, false, false, false, false, false, false, false, false, false, false, false, false, false, false, false, false, false, false, false, false, false, false, false, false, false, false, false, false, false, false, false, false, false, false, false, false, false, false, false, false, false, false, false, false, false, false, false, false, false, false, false, false, false, false, false, false, false, false, false, false] l := rfl
attribute [go_sem] kt_law01_ShaGoes_j3
theorem kt_law01_ShaGoes_k1 (l : List AV) : keepT i_law01_ShaGoes_k1 l = keepT [false, false, false, false, false, false, true, false, false, false, true, true, false, false, false, false, false, false, false, false, false, false, false, false, false, false, false, false, false, false, false, false, false, false, false, false, false, false, false, false, false, false, false, false, false, false, false, false, false, false, false, false, false, false, false, false, false, false, false, false, false, false, false, false, false, false, false, false, false, false, false, false, false, false, false, false, false, false, false, false, false] l := rfl
attribute [go_sem] kt_law01_ShaGoes_k1
theorem kt_law01_ShaGoes_j2 (l : List AV) : keepT i_law01_ShaGoes_j2 l = keepT [false, false, false, false, false, false, false, false, false, false, false, false, false, false, false, false, false, false, false, false, false, false, false, false, false, false, false, false, false, false, false, false, false, false, false, false, false, false, false, false, false, false, false, false, false, false, false, false, false, false, false, false, false, false, false, false, false, false, false, false, false, false, false, false, false, false, false, false, false, false, false, false, false, false, false, false, false, false, false, false, false] l := rfl
attribute [go_sem] kt_law01_ShaGoes_j2
theorem kt_law03_DigestOf_r (l : List AV) : keepT i_law03_DigestOf_r l = keepT [false, false, false, false, true, false, false, false, false, false, false, false, false, false, false, false, false, false, false, false, false, false, false, false, false, false, false, false, false, false, false, false, false, false, false, false, false, false, false, false, false, false, false, false, false, false, false, false, false, false, false, false, false] l := rfl
attribute [go_sem] kt_law03_DigestOf_r
theorem kt_law03_up_r (l : List AV) : keepT i_law03_up_r l = keepT [true, false, false, false, false, false, false, false, false, false, false, false, false, false, false, false, false, false, false, false, false, false] l := rfl
attribute [go_sem] kt_law03_up_r
theorem kt_digest_Pair_r (l : List AV) : keepT i_digest_Pair_r l = keepT [false, false, false, false, false, false, true, true, false, false, false, false, false, false, false, false, false, false, false, false, false, false, false, false] l := rfl
attribute [go_sem] kt_digest_Pair_r
theorem kt_digest_width_r (l : List AV) : keepT i_digest_width_r l = keepT [false, false, true, false, false, false, false, false, false] l := rfl
attribute [go_sem] kt_digest_width_r
theorem kt_coder_Bytes_r (l : List AV) : keepT i_coder_Bytes_r l = keepT [false, false, true, false, false, false, false, false, false] l := rfl
attribute [go_sem] kt_coder_Bytes_r
theorem kt_coder_Number_r (l : List AV) : keepT i_coder_Number_r l = keepT [false, false, true, false, false, false, false, false, false, false, false, false, false, false, false, false, false, false, false, false, false, false, false, false, false, false, false, false, false, false, false, false, false, false, false, false, false, false, false, false, false, false, false] l := rfl
attribute [go_sem] kt_coder_Number_r
theorem kt_coder_Number_j1 (l : List AV) : keepT i_coder_Number_j1 l = keepT [true, false, false, true, false, false, false, false, false, false, false, false, false, false, false, false, false, false, false, false, false, false, false, false, false, false, false, false, false, false, false, false, false, false, false, false, false, false, false, false, false, false, false] l := rfl
attribute [go_sem] kt_coder_Number_j1
theorem kt_coder_Number_k0 (l : List AV) : keepT i_coder_Number_k0 l = keepT [true, false, false, true, false, false, false, false, false, false, false, false, false, false, false, false, false, false, false, false, false, false, false, false, false, false, false, false, false, false, false, false, false, false, false, false, false, false, false, false, false, false, false] l := rfl
attribute [go_sem] kt_coder_Number_k0
theorem kt_coder_Number_j0 (l : List AV) : keepT i_coder_Number_j0 l = keepT [true, false, false, true, false, false, false, false, false, false, false, false, false, false, false, false, false, false, false, false, false, false, false, false, false, false, false, false, false, false, false, false, false, false, false, false, false, false, false, false, false, false, false] l := rfl
attribute [go_sem] kt_coder_Number_j0
theorem kt_coder_Number_j3 (l : List AV) : keepT i_coder_Number_j3 l = keepT [true, false, false, true, true, false, false, false, false, false, false, false, false, false, false, false, false, false, false, false, false, false, false, false, false, false, true, true, false, false, false, false, false, false, false, false, false, false, false, false, false, false, false] l := rfl
attribute [go_sem] kt_coder_Number_j3
theorem kt_coder_Number_k1 (l : List AV) : keepT i_coder_Number_k1 l = keepT [true, false, false, true, true, false, false, false, false, false, false, false, false, false, false, false, false, false, false, false, false, false, false, false, false, false, true, true, false, false, false, false, false, false, false, false, false, false, false, false, false, false, false] l := rfl
attribute [go_sem] kt_coder_Number_k1
theorem kt_coder_Number_j2 (l : List AV) : keepT i_coder_Number_j2 l = keepT [false, false, false, false, true, false, false, false, false, false, false, false, false, false, false, false, false, false, false, false, false, false, false, false, false, false, false, false, false, false, false, false, false, false, false, false, false, false, false, false, false, false, false] l := rfl
attribute [go_sem] kt_coder_Number_j2
theorem kt_slices_Concat_sl_byte_byte_r (l : List AV) : keepT i_slices_Concat_sl_byte_byte_r l = keepT [false, false, true, false, false, false, false, false, false, false, false, false, false, false, false, false, false, false, false, false, false, false, false, false, false, false, false, false, false, false, false, false, false, false, false, false] l := rfl
attribute [go_sem] kt_slices_Concat_sl_byte_byte_r
theorem kt_slices_Concat_sl_byte_byte_j1 (l : List AV) : keepT i_slices_Concat_sl_byte_byte_j1 l = keepT [true, false, false, true, false, false, false, false, false, true, true, true, false, false, false, false, false, false, false, false, false, false, false, false, false, false, false, false, false, false, false, false, false, false, false, false] l := rfl
attribute [go_sem] kt_slices_Concat_sl_byte_byte_j1
theorem kt_slices_Concat_sl_byte_byte_k0 (l : List AV) : keepT i_slices_Concat_sl_byte_byte_k0 l = keepT [true, false, false, true, false, false, false, false, false, true, true, true, false, false, false, false, false, false, false, false, false, false, false, false, false, false, false, false, false, false, false, false, false, false, false, false] l := rfl
attribute [go_sem] kt_slices_Concat_sl_byte_byte_k0
theorem kt_slices_Concat_sl_byte_byte_j0 (l : List AV) : keepT i_slices_Concat_sl_byte_byte_j0 l = keepT [true, false, false, true, false, false, false, false, false, false, false, false, false, false, false, false, false, false, false, false, false, false, false, false, false, false, false, false, false, false, false, false, false, false, false, false] l := rfl
attribute [go_sem] kt_slices_Concat_sl_byte_byte_j0
theorem kt_slices_Concat_sl_byte_byte_j3 (l : List AV) : keepT i_slices_Concat_sl_byte_byte_j3 l = keepT [false, false, false, false, false, false, true, false, false, false, false, false, false, false, false, false, false, false, false, false, false, false, false, false, false, true, true, true, false, false, false, false, false, false, false, false] l := rfl
attribute [go_sem] kt_slices_Concat_sl_byte_byte_j3
theorem kt_slices_Concat_sl_byte_byte_k1 (l : List AV) : keepT i_slices_Concat_sl_byte_byte_k1 l = keepT [false, false, false, false, false, false, true, false, false, false, false, false, false, false, false, false, false, false, false, false, false, false, false, false, false, true, true, true, false, false, false, false, false, false, false, false] l := rfl
attribute [go_sem] kt_slices_Concat_sl_byte_byte_k1
theorem kt_slices_Concat_sl_byte_byte_j2 (l : List AV) : keepT i_slices_Concat_sl_byte_byte_j2 l = keepT [false, false, false, false, false, false, true, false, false, false, false, false, false, false, false, false, false, false, false, false, false, false, false, false, false, false, false, false, false, false, false, false, false, false, false, false] l := rfl
attribute [go_sem] kt_slices_Concat_sl_byte_byte_j2
theorem kt_slices_Grow_sl_byte_byte_r (l : List AV) : keepT i_slices_Grow_sl_byte_byte_r l = keepT [false, false, false, false, true, false, false, false, false, false, false, false, false, false, false, false, false, false, false, false, false, false, false, false, false, false, false] l := rfl
attribute [go_sem] kt_slices_Grow_sl_byte_byte_r
theorem kt_digest_None_r (l : List AV) : keepT i_digest_None_r l = keepT [true, false] l := rfl
attribute [go_sem] kt_digest_None_r
theorem kt_digest_Of_r (l : List AV) : keepT i_digest_Of_r l = keepT [false, false, false, false, true, true, false, false, false, false, false, false, false, false, false] l := rfl
attribute [go_sem] kt_digest_Of_r
theorem kt_slices_Clone_sl_byte_byte_r (l : List AV) : keepT i_slices_Clone_sl_byte_byte_r l = keepT [false, false, true, false, false, false, false, false] l := rfl
attribute [go_sem] kt_slices_Clone_sl_byte_byte_r
theorem kt_law03_may_r (l : List AV) : keepT i_law03_may_r l = keepT [false, false, true, false, false, false, false, false, false] l := rfl
attribute [go_sem] kt_law03_may_r
theorem kt_ref03_Of_r (l : List AV) : keepT i_ref03_Of_r l = keepT [false, false, false, false, false, false, true, false, false, false, false, false] l := rfl
attribute [go_sem] kt_ref03_Of_r
theorem kt_law03_DigestStays_r (l : List AV) : keepT i_law03_DigestStays_r l = keepT [false, false, false, false, true, false, false, false, false, false, false, false, false, false, false, false, false, false, false, false, false, false, false, false, false, false, false, false, false, false, false, false, false, false, false, false, false, false, false, false, false, false, false, false, false, false, false, false, false, false, false, false, false, false, false, false, false, false, false, false, false, false, false, false, false, false, false, false, false, false, false, false, false, false, false, false, false, false, false, false, false, false, false, false, false, false, false, false, false, false, false, false, false, false, false, false, false, false, false, false, false, false, false, false, false, false, false, false, false, false, false, false, false, false, false, false, false, false, false, false, false, false, false, false, false, false, false, false, false, false, false, false, false, false, false, false, false, false, false, false, false, false, false, false, false, false, false, false, false, false, false, false, false, false, false, false, false, false, false, false, false, false, false, false, false, false, false, false, false, false, false, false, false, false, false] l := rfl
attribute [go_sem] kt_law03_DigestStays_r
theorem kt_law03_DigestStays_j1 (l : List AV) : keepT i_law03_DigestStays_j1 l = keepT [true, false, false, true, false, true, true, true, true, true, true, true, true, true, true, true, true, false, false, false, false, false, false, false, false, false, false, false, false, false, false, false, false, false, false, false, false, false, false, false, false, false, false, false, false, false, false, false, false, false, false, false, false, false, false, false, false, false, false, false, false, false, false, false, false, false, false, false, false, false, false, false, false, false, false, false, false, false, false, false, false, false, false, false, false, false, false, false, false, false, false, false, false, false, false, false, false, false, false, false, false, false, false, false, false, false, false, false, false, false, false, false, false, false, false, false, false, false, false, false, false, false, false, false, false, false, false, false, false, false, false, false, false, false, false, false, false, false, false, false, false, false, false, false, false, false, false, false, false, false, false, false, false, false, false, false, false, false, false, false, false, false, false, false, false, false, false, false, false, false, false, false, false, false, false] l := rfl
attribute [go_sem] kt_law03_DigestStays_j1
theorem kt_law03_DigestStays_k0 (l : List AV) : keepT i_law03_DigestStays_k0 l = keepT [true, false, false, true, false, true, true, true, true, true, true, true, true, true, true, true, true, false, false, false, false, false, false, false, false, false, false, false, false, false, false, false, false, false, false, false, false, false, false, false, false, false, false, false, false, false, false, false, false, false, false, false, false, false, false, false, false, false, false, false, false, false, false, false, false, false, false, false, false, false, false, false, false, false, false, false, false, false, false, false, false, false, false, false, false, false, false, false, false, false, false, false, false, false, false, false, false, false, false, false, false, false, false, false, false, false, false, false, false, false, false, false, false, false, false, false, false, false, false, false, false, false, false, false, false, false, false, false, false, false, false, false, false, false, false, false, false, false, false, false, false, false, false, false, false, false, false, false, false, false, false, false, false, false, false, false, false, false, false, false, false, false, false, false, false, false, false, false, false, false, false, false, false, false, false] l := rfl
attribute [go_sem] kt_law03_DigestStays_k0
theorem kt_law03_DigestStays_j0 (l : List AV) : keepT i_law03_DigestStays_j0 l = keepT [true, false, false, true, false, true, false, true, true, true, true, true, true, true, true, true, false, false, false, false, false, false, false, false, false, false, false, false, false, false, false, false, false, false, false, false, false, false, false, false, false, false, false, false, false, false, false, false, false, false, false, false, false, false, false, false, false, false, false, false, false, false, false, false, false, false, false, false, false, false, false, false, false, false, false, false, false, false, false, false, false, false, false, false, false, false, false, false, false, false, false, false, false, false, false, false, false, false, false, false, false, false, false, false, false, false, false, false, false, false, false, false, false, false, false, false, false, false, false, false, false, false, false, false, false, false, false, false, false, false, false, false, false, false, false, false, false, false, false, false, false, false, false, false, false, false, false, false, false, false, false, false, false, false, false, false, false, false, false, false, false, false, false, false, false, false, false, false, false, false, false, false, false, false, false] l := rfl
attribute [go_sem] kt_law03_DigestStays_j0
theorem kt_digest_Value_r (l : List AV) : keepT i_digest_Value_r l = keepT [false, false, true, false, false, false] l := rfl
attribute [go_sem] kt_digest_Value_r
theorem kt_digest_Node_r (l : List AV) : keepT i_digest_Node_r l = keepT [false, false, false, false, false, false, false, false, true, true, false, false, false, false, false, false, false, false, false, false, false, false, false, false, false, false, false, false, false, false, false, false, false, false, false, false, false, false] l := rfl
attribute [go_sem] kt_digest_Node_r
noncomputable def L_ref01_Made_1 (st : St) : Option (Ex × St) := lp tab G0 4 i_ref01_Made_k1 i_ref01_Made_b1 st
theorem L_ref01_Made_1_eq (st : St) : L_ref01_Made_1 st = againL L_ref01_Made_1 4 i_ref01_Made_k1 (app tab G0 4 [] (ex tab G0 4 i_ref01_Made_b1 st)) := lp_eq tab G0 4 i_ref01_Made_k1 i_ref01_Made_b1 st
theorem L_ref01_Made_1_in (K : List Fr) (st : St) : app tab G0 4 K (ex tab G0 4 (.loop i_ref01_Made_k1 i_ref01_Made_b1) st) = app tab G0 4 K (L_ref01_Made_1 (clean 4 i_ref01_Made_k1 st)) := rfl
attribute [go_sem] L_ref01_Made_1_in
noncomputable def L_ref01_Made_0 (st : St) : Option (Ex × St) := lp tab G0 4 i_ref01_Made_k0 i_ref01_Made_b0 st
theorem L_ref01_Made_0_eq (st : St) : L_ref01_Made_0 st = againL L_ref01_Made_0 4 i_ref01_Made_k0 (app tab G0 4 [] (ex tab G0 4 i_ref01_Made_b0 st)) := lp_eq tab G0 4 i_ref01_Made_k0 i_ref01_Made_b0 st
theorem L_ref01_Made_0_in (K : List Fr) (st : St) : app tab G0 4 K (ex tab G0 4 (.loop i_ref01_Made_k0 i_ref01_Made_b0) st) = app tab G0 4 K (L_ref01_Made_0 (clean 4 i_ref01_Made_k0 st)) := rfl
attribute [go_sem] L_ref01_Made_0_in
noncomputable def L_ref01_Made_2 (st : St) : Option (Ex × St) := lp tab G0 4 i_ref01_Made_k2 i_ref01_Made_b2 st
theorem L_ref01_Made_2_eq (st : St) : L_ref01_Made_2 st = againL L_ref01_Made_2 4 i_ref01_Made_k2 (app tab G0 4 [] (ex tab G0 4 i_ref01_Made_b2 st)) := lp_eq tab G0 4 i_ref01_Made_k2 i_ref01_Made_b2 st
theorem L_ref01_Made_2_in (K : List Fr) (st : St) : app tab G0 4 K (ex tab G0 4 (.loop i_ref01_Made_k2 i_ref01_Made_b2) st) = app tab G0 4 K (L_ref01_Made_2 (clean 4 i_ref01_Made_k2 st)) := rfl
attribute [go_sem] L_ref01_Made_2_in
noncomputable def L_ref01_Made_3 (st : St) : Option (Ex × St) := lp tab G0 4 i_ref01_Made_k3 i_ref01_Made_b3 st
theorem L_ref01_Made_3_eq (st : St) : L_ref01_Made_3 st = againL L_ref01_Made_3 4 i_ref01_Made_k3 (app tab G0 4 [] (ex tab G0 4 i_ref01_Made_b3 st)) := lp_eq tab G0 4 i_ref01_Made_k3 i_ref01_Made_b3 st
theorem L_ref01_Made_3_in (K : List Fr) (st : St) : app tab G0 4 K (ex tab G0 4 (.loop i_ref01_Made_k3 i_ref01_Made_b3) st) = app tab G0 4 K (L_ref01_Made_3 (clean 4 i_ref01_Made_k3 st)) := rfl
attribute [go_sem] L_ref01_Made_3_in
noncomputable def L_ref01_root_0 (st : St) : Option (Ex × St) := lp tab G0 0 i_ref01_root_k0 i_ref01_root_b0 st
theorem L_ref01_root_0_eq (st : St) : L_ref01_root_0 st = againL L_ref01_root_0 0 i_ref01_root_k0 (app tab G0 0 [] (ex tab G0 0 i_ref01_root_b0 st)) := lp_eq tab G0 0 i_ref01_root_k0 i_ref01_root_b0 st
theorem L_ref01_root_0_in (K : List Fr) (st : St) : app tab G0 0 K (ex tab G0 0 (.loop i_ref01_root_k0 i_ref01_root_b0) st) = app tab G0 0 K (L_ref01_root_0 (clean 0 i_ref01_root_k0 st)) := rfl
attribute [go_sem] L_ref01_root_0_in
noncomputable def L_ref01_below_0 (st : St) : Option (Ex × St) := lp tab G0 1 i_ref01_below_k0 i_ref01_below_b0 st
theorem L_ref01_below_0_eq (st : St) : L_ref01_below_0 st = againL L_ref01_below_0 1 i_ref01_below_k0 (app tab G0 1 [] (ex tab G0 1 i_ref01_below_b0 st)) := lp_eq tab G0 1 i_ref01_below_k0 i_ref01_below_b0 st
theorem L_ref01_below_0_in (K : List Fr) (st : St) : app tab G0 1 K (ex tab G0 1 (.loop i_ref01_below_k0 i_ref01_below_b0) st) = app tab G0 1 K (L_ref01_below_0 (clean 1 i_ref01_below_k0 st)) := rfl
attribute [go_sem] L_ref01_below_0_in
noncomputable def L_ref01_times_1 (st : St) : Option (Ex × St) := lp tab G0 1 i_ref01_times_k1 i_ref01_times_b1 st
theorem L_ref01_times_1_eq (st : St) : L_ref01_times_1 st = againL L_ref01_times_1 1 i_ref01_times_k1 (app tab G0 1 [] (ex tab G0 1 i_ref01_times_b1 st)) := lp_eq tab G0 1 i_ref01_times_k1 i_ref01_times_b1 st
theorem L_ref01_times_1_in (K : List Fr) (st : St) : app tab G0 1 K (ex tab G0 1 (.loop i_ref01_times_k1 i_ref01_times_b1) st) = app tab G0 1 K (L_ref01_times_1 (clean 1 i_ref01_times_k1 st)) := rfl
attribute [go_sem] L_ref01_times_1_in
noncomputable def L_ref01_times_0 (st : St) : Option (Ex × St) := lp tab G0 1 i_ref01_times_k0 i_ref01_times_b0 st
theorem L_ref01_times_0_eq (st : St) : L_ref01_times_0 st = againL L_ref01_times_0 1 i_ref01_times_k0 (app tab G0 1 [] (ex tab G0 1 i_ref01_times_b0 st)) := lp_eq tab G0 1 i_ref01_times_k0 i_ref01_times_b0 st
theorem L_ref01_times_0_in (K : List Fr) (st : St) : app tab G0 1 K (ex tab G0 1 (.loop i_ref01_times_k0 i_ref01_times_b0) st) = app tab G0 1 K (L_ref01_times_0 (clean 1 i_ref01_times_k0 st)) := rfl
attribute [go_sem] L_ref01_times_0_in
noncomputable def L_ref01_times_2 (st : St) : Option (Ex × St) := lp tab G0 1 i_ref01_times_k2 i_ref01_times_b2 st
theorem L_ref01_times_2_eq (st : St) : L_ref01_times_2 st = againL L_ref01_times_2 1 i_ref01_times_k2 (app tab G0 1 [] (ex tab G0 1 i_ref01_times_b2 st)) := lp_eq tab G0 1 i_ref01_times_k2 i_ref01_times_b2 st
theorem L_ref01_times_2_in (K : List Fr) (st : St) : app tab G0 1 K (ex tab G0 1 (.loop i_ref01_times_k2 i_ref01_times_b2) st) = app tab G0 1 K (L_ref01_times_2 (clean 1 i_ref01_times_k2 st)) := rfl
attribute [go_sem] L_ref01_times_2_in
noncomputable def L_sha_Step_0 (st : St) : Option (Ex × St) := lp tab G0 3 i_sha_Step_k0 i_sha_Step_b0 st
theorem L_sha_Step_0_eq (st : St) : L_sha_Step_0 st = againL L_sha_Step_0 3 i_sha_Step_k0 (app tab G0 3 [] (ex tab G0 3 i_sha_Step_b0 st)) := lp_eq tab G0 3 i_sha_Step_k0 i_sha_Step_b0 st
theorem L_sha_Step_0_in (K : List Fr) (st : St) : app tab G0 3 K (ex tab G0 3 (.loop i_sha_Step_k0 i_sha_Step_b0) st) = app tab G0 3 K (L_sha_Step_0 (clean 3 i_sha_Step_k0 st)) := rfl
attribute [go_sem] L_sha_Step_0_in
noncomputable def L_sha_Step_1 (st : St) : Option (Ex × St) := lp tab G0 3 i_sha_Step_k1 i_sha_Step_b1 st
theorem L_sha_Step_1_eq (st : St) : L_sha_Step_1 st = againL L_sha_Step_1 3 i_sha_Step_k1 (app tab G0 3 [] (ex tab G0 3 i_sha_Step_b1 st)) := lp_eq tab G0 3 i_sha_Step_k1 i_sha_Step_b1 st
theorem L_sha_Step_1_in (K : List Fr) (st : St) : app tab G0 3 K (ex tab G0 3 (.loop i_sha_Step_k1 i_sha_Step_b1) st) = app tab G0 3 K (L_sha_Step_1 (clean 3 i_sha_Step_k1 st)) := rfl
attribute [go_sem] L_sha_Step_1_in
noncomputable def L_sha_Words_0 (st : St) : Option (Ex × St) := lp tab G0 1 i_sha_Words_k0 i_sha_Words_b0 st
theorem L_sha_Words_0_eq (st : St) : L_sha_Words_0 st = againL L_sha_Words_0 1 i_sha_Words_k0 (app tab G0 1 [] (ex tab G0 1 i_sha_Words_b0 st)) := lp_eq tab G0 1 i_sha_Words_k0 i_sha_Words_b0 st
theorem L_sha_Words_0_in (K : List Fr) (st : St) : app tab G0 1 K (ex tab G0 1 (.loop i_sha_Words_k0 i_sha_Words_b0) st) = app tab G0 1 K (L_sha_Words_0 (clean 1 i_sha_Words_k0 st)) := rfl
attribute [go_sem] L_sha_Words_0_in
noncomputable def L_sha_Words_1 (st : St) : Option (Ex × St) := lp tab G0 1 i_sha_Words_k1 i_sha_Words_b1 st
theorem L_sha_Words_1_eq (st : St) : L_sha_Words_1 st = againL L_sha_Words_1 1 i_sha_Words_k1 (app tab G0 1 [] (ex tab G0 1 i_sha_Words_b1 st)) := lp_eq tab G0 1 i_sha_Words_k1 i_sha_Words_b1 st
theorem L_sha_Words_1_in (K : List Fr) (st : St) : app tab G0 1 K (ex tab G0 1 (.loop i_sha_Words_k1 i_sha_Words_b1) st) = app tab G0 1 K (L_sha_Words_1 (clean 1 i_sha_Words_k1 st)) := rfl
attribute [go_sem] L_sha_Words_1_in
noncomputable def L_ref01_Tables_Step_0 (st : St) : Option (Ex × St) := lp tab G0 4 i_ref01_Tables_Step_k0 i_ref01_Tables_Step_b0 st
theorem L_ref01_Tables_Step_0_eq (st : St) : L_ref01_Tables_Step_0 st = againL L_ref01_Tables_Step_0 4 i_ref01_Tables_Step_k0 (app tab G0 4 [] (ex tab G0 4 i_ref01_Tables_Step_b0 st)) := lp_eq tab G0 4 i_ref01_Tables_Step_k0 i_ref01_Tables_Step_b0 st
theorem L_ref01_Tables_Step_0_in (K : List Fr) (st : St) : app tab G0 4 K (ex tab G0 4 (.loop i_ref01_Tables_Step_k0 i_ref01_Tables_Step_b0) st) = app tab G0 4 K (L_ref01_Tables_Step_0 (clean 4 i_ref01_Tables_Step_k0 st)) := rfl
attribute [go_sem] L_ref01_Tables_Step_0_in
noncomputable def L_ref01_Tables_Step_1 (st : St) : Option (Ex × St) := lp tab G0 4 i_ref01_Tables_Step_k1 i_ref01_Tables_Step_b1 st
theorem L_ref01_Tables_Step_1_eq (st : St) : L_ref01_Tables_Step_1 st = againL L_ref01_Tables_Step_1 4 i_ref01_Tables_Step_k1 (app tab G0 4 [] (ex tab G0 4 i_ref01_Tables_Step_b1 st)) := lp_eq tab G0 4 i_ref01_Tables_Step_k1 i_ref01_Tables_Step_b1 st
theorem L_ref01_Tables_Step_1_in (K : List Fr) (st : St) : app tab G0 4 K (ex tab G0 4 (.loop i_ref01_Tables_Step_k1 i_ref01_Tables_Step_b1) st) = app tab G0 4 K (L_ref01_Tables_Step_1 (clean 4 i_ref01_Tables_Step_k1 st)) := rfl
attribute [go_sem] L_ref01_Tables_Step_1_in
noncomputable def L_ref01_Words_1 (st : St) : Option (Ex × St) := lp tab G0 1 i_ref01_Words_k1 i_ref01_Words_b1 st
theorem L_ref01_Words_1_eq (st : St) : L_ref01_Words_1 st = againL L_ref01_Words_1 1 i_ref01_Words_k1 (app tab G0 1 [] (ex tab G0 1 i_ref01_Words_b1 st)) := lp_eq tab G0 1 i_ref01_Words_k1 i_ref01_Words_b1 st
theorem L_ref01_Words_1_in (K : List Fr) (st : St) : app tab G0 1 K (ex tab G0 1 (.loop i_ref01_Words_k1 i_ref01_Words_b1) st) = app tab G0 1 K (L_ref01_Words_1 (clean 1 i_ref01_Words_k1 st)) := rfl
attribute [go_sem] L_ref01_Words_1_in
noncomputable def L_ref01_Words_0 (st : St) : Option (Ex × St) := lp tab G0 1 i_ref01_Words_k0 i_ref01_Words_b0 st
theorem L_ref01_Words_0_eq (st : St) : L_ref01_Words_0 st = againL L_ref01_Words_0 1 i_ref01_Words_k0 (app tab G0 1 [] (ex tab G0 1 i_ref01_Words_b0 st)) := lp_eq tab G0 1 i_ref01_Words_k0 i_ref01_Words_b0 st
theorem L_ref01_Words_0_in (K : List Fr) (st : St) : app tab G0 1 K (ex tab G0 1 (.loop i_ref01_Words_k0 i_ref01_Words_b0) st) = app tab G0 1 K (L_ref01_Words_0 (clean 1 i_ref01_Words_k0 st)) := rfl
attribute [go_sem] L_ref01_Words_0_in
noncomputable def L_ref01_Words_2 (st : St) : Option (Ex × St) := lp tab G0 1 i_ref01_Words_k2 i_ref01_Words_b2 st
theorem L_ref01_Words_2_eq (st : St) : L_ref01_Words_2 st = againL L_ref01_Words_2 1 i_ref01_Words_k2 (app tab G0 1 [] (ex tab G0 1 i_ref01_Words_b2 st)) := lp_eq tab G0 1 i_ref01_Words_k2 i_ref01_Words_b2 st
theorem L_ref01_Words_2_in (K : List Fr) (st : St) : app tab G0 1 K (ex tab G0 1 (.loop i_ref01_Words_k2 i_ref01_Words_b2) st) = app tab G0 1 K (L_ref01_Words_2 (clean 1 i_ref01_Words_k2 st)) := rfl
attribute [go_sem] L_ref01_Words_2_in
noncomputable def L_sha_Sum_1 (st : St) : Option (Ex × St) := lp tab G0 3 i_sha_Sum_k1 i_sha_Sum_b1 st
theorem L_sha_Sum_1_eq (st : St) : L_sha_Sum_1 st = againL L_sha_Sum_1 3 i_sha_Sum_k1 (app tab G0 3 [] (ex tab G0 3 i_sha_Sum_b1 st)) := lp_eq tab G0 3 i_sha_Sum_k1 i_sha_Sum_b1 st
theorem L_sha_Sum_1_in (K : List Fr) (st : St) : app tab G0 3 K (ex tab G0 3 (.loop i_sha_Sum_k1 i_sha_Sum_b1) st) = app tab G0 3 K (L_sha_Sum_1 (clean 3 i_sha_Sum_k1 st)) := rfl
attribute [go_sem] L_sha_Sum_1_in
noncomputable def L_sha_Sum_0 (st : St) : Option (Ex × St) := lp tab G0 3 i_sha_Sum_k0 i_sha_Sum_b0 st
theorem L_sha_Sum_0_eq (st : St) : L_sha_Sum_0 st = againL L_sha_Sum_0 3 i_sha_Sum_k0 (app tab G0 3 [] (ex tab G0 3 i_sha_Sum_b0 st)) := lp_eq tab G0 3 i_sha_Sum_k0 i_sha_Sum_b0 st
theorem L_sha_Sum_0_in (K : List Fr) (st : St) : app tab G0 3 K (ex tab G0 3 (.loop i_sha_Sum_k0 i_sha_Sum_b0) st) = app tab G0 3 K (L_sha_Sum_0 (clean 3 i_sha_Sum_k0 st)) := rfl
attribute [go_sem] L_sha_Sum_0_in
noncomputable def L_sha_Sum_2 (st : St) : Option (Ex × St) := lp tab G0 3 i_sha_Sum_k2 i_sha_Sum_b2 st
theorem L_sha_Sum_2_eq (st : St) : L_sha_Sum_2 st = againL L_sha_Sum_2 3 i_sha_Sum_k2 (app tab G0 3 [] (ex tab G0 3 i_sha_Sum_b2 st)) := lp_eq tab G0 3 i_sha_Sum_k2 i_sha_Sum_b2 st
theorem L_sha_Sum_2_in (K : List Fr) (st : St) : app tab G0 3 K (ex tab G0 3 (.loop i_sha_Sum_k2 i_sha_Sum_b2) st) = app tab G0 3 K (L_sha_Sum_2 (clean 3 i_sha_Sum_k2 st)) := rfl
attribute [go_sem] L_sha_Sum_2_in
noncomputable def L_sha_Tail_0 (st : St) : Option (Ex × St) := lp tab G0 1 i_sha_Tail_k0 i_sha_Tail_b0 st
theorem L_sha_Tail_0_eq (st : St) : L_sha_Tail_0 st = againL L_sha_Tail_0 1 i_sha_Tail_k0 (app tab G0 1 [] (ex tab G0 1 i_sha_Tail_b0 st)) := lp_eq tab G0 1 i_sha_Tail_k0 i_sha_Tail_b0 st
theorem L_sha_Tail_0_in (K : List Fr) (st : St) : app tab G0 1 K (ex tab G0 1 (.loop i_sha_Tail_k0 i_sha_Tail_b0) st) = app tab G0 1 K (L_sha_Tail_0 (clean 1 i_sha_Tail_k0 st)) := rfl
attribute [go_sem] L_sha_Tail_0_in
noncomputable def L_sha_Tail_1 (st : St) : Option (Ex × St) := lp tab G0 1 i_sha_Tail_k1 i_sha_Tail_b1 st
theorem L_sha_Tail_1_eq (st : St) : L_sha_Tail_1 st = againL L_sha_Tail_1 1 i_sha_Tail_k1 (app tab G0 1 [] (ex tab G0 1 i_sha_Tail_b1 st)) := lp_eq tab G0 1 i_sha_Tail_k1 i_sha_Tail_b1 st
theorem L_sha_Tail_1_in (K : List Fr) (st : St) : app tab G0 1 K (ex tab G0 1 (.loop i_sha_Tail_k1 i_sha_Tail_b1) st) = app tab G0 1 K (L_sha_Tail_1 (clean 1 i_sha_Tail_k1 st)) := rfl
attribute [go_sem] L_sha_Tail_1_in
noncomputable def L_ref01_Tables_Sum_0 (st : St) : Option (Ex × St) := lp tab G0 4 i_ref01_Tables_Sum_k0 i_ref01_Tables_Sum_b0 st
theorem L_ref01_Tables_Sum_0_eq (st : St) : L_ref01_Tables_Sum_0 st = againL L_ref01_Tables_Sum_0 4 i_ref01_Tables_Sum_k0 (app tab G0 4 [] (ex tab G0 4 i_ref01_Tables_Sum_b0 st)) := lp_eq tab G0 4 i_ref01_Tables_Sum_k0 i_ref01_Tables_Sum_b0 st
theorem L_ref01_Tables_Sum_0_in (K : List Fr) (st : St) : app tab G0 4 K (ex tab G0 4 (.loop i_ref01_Tables_Sum_k0 i_ref01_Tables_Sum_b0) st) = app tab G0 4 K (L_ref01_Tables_Sum_0 (clean 4 i_ref01_Tables_Sum_k0 st)) := rfl
attribute [go_sem] L_ref01_Tables_Sum_0_in
noncomputable def L_ref01_Tables_Sum_1 (st : St) : Option (Ex × St) := lp tab G0 4 i_ref01_Tables_Sum_k1 i_ref01_Tables_Sum_b1 st
theorem L_ref01_Tables_Sum_1_eq (st : St) : L_ref01_Tables_Sum_1 st = againL L_ref01_Tables_Sum_1 4 i_ref01_Tables_Sum_k1 (app tab G0 4 [] (ex tab G0 4 i_ref01_Tables_Sum_b1 st)) := lp_eq tab G0 4 i_ref01_Tables_Sum_k1 i_ref01_Tables_Sum_b1 st
theorem L_ref01_Tables_Sum_1_in (K : List Fr) (st : St) : app tab G0 4 K (ex tab G0 4 (.loop i_ref01_Tables_Sum_k1 i_ref01_Tables_Sum_b1) st) = app tab G0 4 K (L_ref01_Tables_Sum_1 (clean 4 i_ref01_Tables_Sum_k1 st)) := rfl
attribute [go_sem] L_ref01_Tables_Sum_1_in
noncomputable def L_ref01_Tail_0 (st : St) : Option (Ex × St) := lp tab G0 2 i_ref01_Tail_k0 i_ref01_Tail_b0 st
theorem L_ref01_Tail_0_eq (st : St) : L_ref01_Tail_0 st = againL L_ref01_Tail_0 2 i_ref01_Tail_k0 (app tab G0 2 [] (ex tab G0 2 i_ref01_Tail_b0 st)) := lp_eq tab G0 2 i_ref01_Tail_k0 i_ref01_Tail_b0 st
theorem L_ref01_Tail_0_in (K : List Fr) (st : St) : app tab G0 2 K (ex tab G0 2 (.loop i_ref01_Tail_k0 i_ref01_Tail_b0) st) = app tab G0 2 K (L_ref01_Tail_0 (clean 2 i_ref01_Tail_k0 st)) := rfl
attribute [go_sem] L_ref01_Tail_0_in
noncomputable def L_ref01_Tail_1 (st : St) : Option (Ex × St) := lp tab G0 2 i_ref01_Tail_k1 i_ref01_Tail_b1 st
theorem L_ref01_Tail_1_eq (st : St) : L_ref01_Tail_1 st = againL L_ref01_Tail_1 2 i_ref01_Tail_k1 (app tab G0 2 [] (ex tab G0 2 i_ref01_Tail_b1 st)) := lp_eq tab G0 2 i_ref01_Tail_k1 i_ref01_Tail_b1 st
theorem L_ref01_Tail_1_in (K : List Fr) (st : St) : app tab G0 2 K (ex tab G0 2 (.loop i_ref01_Tail_k1 i_ref01_Tail_b1) st) = app tab G0 2 K (L_ref01_Tail_1 (clean 2 i_ref01_Tail_k1 st)) := rfl
attribute [go_sem] L_ref01_Tail_1_in
noncomputable def L_law01_ShaStays_0 (st : St) : Option (Ex × St) := lp tab G0 3 i_law01_ShaStays_k0 i_law01_ShaStays_b0 st
theorem L_law01_ShaStays_0_eq (st : St) : L_law01_ShaStays_0 st = againL L_law01_ShaStays_0 3 i_law01_ShaStays_k0 (app tab G0 3 [] (ex tab G0 3 i_law01_ShaStays_b0 st)) := lp_eq tab G0 3 i_law01_ShaStays_k0 i_law01_ShaStays_b0 st
theorem L_law01_ShaStays_0_in (K : List Fr) (st : St) : app tab G0 3 K (ex tab G0 3 (.loop i_law01_ShaStays_k0 i_law01_ShaStays_b0) st) = app tab G0 3 K (L_law01_ShaStays_0 (clean 3 i_law01_ShaStays_k0 st)) := rfl
attribute [go_sem] L_law01_ShaStays_0_in
noncomputable def L_law01_ShaStays_1 (st : St) : Option (Ex × St) := lp tab G0 3 i_law01_ShaStays_k1 i_law01_ShaStays_b1 st
theorem L_law01_ShaStays_1_eq (st : St) : L_law01_ShaStays_1 st = againL L_law01_ShaStays_1 3 i_law01_ShaStays_k1 (app tab G0 3 [] (ex tab G0 3 i_law01_ShaStays_b1 st)) := lp_eq tab G0 3 i_law01_ShaStays_k1 i_law01_ShaStays_b1 st
theorem L_law01_ShaStays_1_in (K : List Fr) (st : St) : app tab G0 3 K (ex tab G0 3 (.loop i_law01_ShaStays_k1 i_law01_ShaStays_b1) st) = app tab G0 3 K (L_law01_ShaStays_1 (clean 3 i_law01_ShaStays_k1 st)) := rfl
attribute [go_sem] L_law01_ShaStays_1_in
noncomputable def L_law01_ShaStays_2 (st : St) : Option (Ex × St) := lp tab G0 3 i_law01_ShaStays_k2 i_law01_ShaStays_b2 st
theorem L_law01_ShaStays_2_eq (st : St) : L_law01_ShaStays_2 st = againL L_law01_ShaStays_2 3 i_law01_ShaStays_k2 (app tab G0 3 [] (ex tab G0 3 i_law01_ShaStays_b2 st)) := lp_eq tab G0 3 i_law01_ShaStays_k2 i_law01_ShaStays_b2 st
theorem L_law01_ShaStays_2_in (K : List Fr) (st : St) : app tab G0 3 K (ex tab G0 3 (.loop i_law01_ShaStays_k2 i_law01_ShaStays_b2) st) = app tab G0 3 K (L_law01_ShaStays_2 (clean 3 i_law01_ShaStays_k2 st)) := rfl
attribute [go_sem] L_law01_ShaStays_2_in
noncomputable def L_law01_ShaGoes_0 (st : St) : Option (Ex × St) := lp tab G0 3 i_law01_ShaGoes_k0 i_law01_ShaGoes_b0 st
theorem L_law01_ShaGoes_0_eq (st : St) : L_law01_ShaGoes_0 st = againL L_law01_ShaGoes_0 3 i_law01_ShaGoes_k0 (app tab G0 3 [] (ex tab G0 3 i_law01_ShaGoes_b0 st)) := lp_eq tab G0 3 i_law01_ShaGoes_k0 i_law01_ShaGoes_b0 st
theorem L_law01_ShaGoes_0_in (K : List Fr) (st : St) : app tab G0 3 K (ex tab G0 3 (.loop i_law01_ShaGoes_k0 i_law01_ShaGoes_b0) st) = app tab G0 3 K (L_law01_ShaGoes_0 (clean 3 i_law01_ShaGoes_k0 st)) := rfl
attribute [go_sem] L_law01_ShaGoes_0_in
noncomputable def L_law01_ShaGoes_1 (st : St) : Option (Ex × St) := lp tab G0 3 i_law01_ShaGoes_k1 i_law01_ShaGoes_b1 st
theorem L_law01_ShaGoes_1_eq (st : St) : L_law01_ShaGoes_1 st = againL L_law01_ShaGoes_1 3 i_law01_ShaGoes_k1 (app tab G0 3 [] (ex tab G0 3 i_law01_ShaGoes_b1 st)) := lp_eq tab G0 3 i_law01_ShaGoes_k1 i_law01_ShaGoes_b1 st
theorem L_law01_ShaGoes_1_in (K : List Fr) (st : St) : app tab G0 3 K (ex tab G0 3 (.loop i_law01_ShaGoes_k1 i_law01_ShaGoes_b1) st) = app tab G0 3 K (L_law01_ShaGoes_1 (clean 3 i_law01_ShaGoes_k1 st)) := rfl
attribute [go_sem] L_law01_ShaGoes_1_in
noncomputable def L_coder_Number_0 (st : St) : Option (Ex × St) := lp tab G0 1 i_coder_Number_k0 i_coder_Number_b0 st
theorem L_coder_Number_0_eq (st : St) : L_coder_Number_0 st = againL L_coder_Number_0 1 i_coder_Number_k0 (app tab G0 1 [] (ex tab G0 1 i_coder_Number_b0 st)) := lp_eq tab G0 1 i_coder_Number_k0 i_coder_Number_b0 st
theorem L_coder_Number_0_in (K : List Fr) (st : St) : app tab G0 1 K (ex tab G0 1 (.loop i_coder_Number_k0 i_coder_Number_b0) st) = app tab G0 1 K (L_coder_Number_0 (clean 1 i_coder_Number_k0 st)) := rfl
attribute [go_sem] L_coder_Number_0_in
noncomputable def L_coder_Number_1 (st : St) : Option (Ex × St) := lp tab G0 1 i_coder_Number_k1 i_coder_Number_b1 st
theorem L_coder_Number_1_eq (st : St) : L_coder_Number_1 st = againL L_coder_Number_1 1 i_coder_Number_k1 (app tab G0 1 [] (ex tab G0 1 i_coder_Number_b1 st)) := lp_eq tab G0 1 i_coder_Number_k1 i_coder_Number_b1 st
theorem L_coder_Number_1_in (K : List Fr) (st : St) : app tab G0 1 K (ex tab G0 1 (.loop i_coder_Number_k1 i_coder_Number_b1) st) = app tab G0 1 K (L_coder_Number_1 (clean 1 i_coder_Number_k1 st)) := rfl
attribute [go_sem] L_coder_Number_1_in
noncomputable def L_slices_Concat_sl_byte_byte_0 (st : St) : Option (Ex × St) := lp tab G0 2 i_slices_Concat_sl_byte_byte_k0 i_slices_Concat_sl_byte_byte_b0 st
theorem L_slices_Concat_sl_byte_byte_0_eq (st : St) : L_slices_Concat_sl_byte_byte_0 st = againL L_slices_Concat_sl_byte_byte_0 2 i_slices_Concat_sl_byte_byte_k0 (app tab G0 2 [] (ex tab G0 2 i_slices_Concat_sl_byte_byte_b0 st)) := lp_eq tab G0 2 i_slices_Concat_sl_byte_byte_k0 i_slices_Concat_sl_byte_byte_b0 st
theorem L_slices_Concat_sl_byte_byte_0_in (K : List Fr) (st : St) : app tab G0 2 K (ex tab G0 2 (.loop i_slices_Concat_sl_byte_byte_k0 i_slices_Concat_sl_byte_byte_b0) st) = app tab G0 2 K (L_slices_Concat_sl_byte_byte_0 (clean 2 i_slices_Concat_sl_byte_byte_k0 st)) := rfl
attribute [go_sem] L_slices_Concat_sl_byte_byte_0_in
noncomputable def L_slices_Concat_sl_byte_byte_1 (st : St) : Option (Ex × St) := lp tab G0 2 i_slices_Concat_sl_byte_byte_k1 i_slices_Concat_sl_byte_byte_b1 st
theorem L_slices_Concat_sl_byte_byte_1_eq (st : St) : L_slices_Concat_sl_byte_byte_1 st = againL L_slices_Concat_sl_byte_byte_1 2 i_slices_Concat_sl_byte_byte_k1 (app tab G0 2 [] (ex tab G0 2 i_slices_Concat_sl_byte_byte_b1 st)) := lp_eq tab G0 2 i_slices_Concat_sl_byte_byte_k1 i_slices_Concat_sl_byte_byte_b1 st
theorem L_slices_Concat_sl_byte_byte_1_in (K : List Fr) (st : St) : app tab G0 2 K (ex tab G0 2 (.loop i_slices_Concat_sl_byte_byte_k1 i_slices_Concat_sl_byte_byte_b1) st) = app tab G0 2 K (L_slices_Concat_sl_byte_byte_1 (clean 2 i_slices_Concat_sl_byte_byte_k1 st)) := rfl
attribute [go_sem] L_slices_Concat_sl_byte_byte_1_in
noncomputable def L_law03_DigestStays_0 (st : St) : Option (Ex × St) := lp tab G0 3 i_law03_DigestStays_k0 i_law03_DigestStays_b0 st
theorem L_law03_DigestStays_0_eq (st : St) : L_law03_DigestStays_0 st = againL L_law03_DigestStays_0 3 i_law03_DigestStays_k0 (app tab G0 3 [] (ex tab G0 3 i_law03_DigestStays_b0 st)) := lp_eq tab G0 3 i_law03_DigestStays_k0 i_law03_DigestStays_b0 st
theorem L_law03_DigestStays_0_in (K : List Fr) (st : St) : app tab G0 3 K (ex tab G0 3 (.loop i_law03_DigestStays_k0 i_law03_DigestStays_b0) st) = app tab G0 3 K (L_law03_DigestStays_0 (clean 3 i_law03_DigestStays_k0 st)) := rfl
attribute [go_sem] L_law03_DigestStays_0_in
end Go.Proofs.YtfbipgidlecmkaaDoor
