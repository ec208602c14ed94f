/-
  The law's tail.
-/
import Derived.Test.YtfihodpdjpcpfaaLSpoil9
import Derived.Test.YtfihodpdjpcpfaaLRanges
set_option linter.unusedSimpArgs false
set_option linter.unusedVariables false
set_option maxRecDepth 200000
set_option maxHeartbeats 4000000
namespace Go.Proofs.Ytfihodpdjpcpfaa
open Go.Ev

def tailIR : IR :=
         (.seq
          (.reg [] [
            ⟨(some 62), .load true 5 (.t 7), none, []⟩,
            ⟨(some 63), .load true 3 (.t 3), none, []⟩,
            ⟨(some 64), .qcall n_scan_Range_v1 [(.t 62), (.t 63)] [], none, []⟩,
            ⟨(some 61), .mv (.t 64), none, []⟩,
            ⟨(some 65), .ext 0 (.t 61), none, []⟩,
            ⟨(some 66), .ext 1 (.t 61), none, []⟩,
            ⟨(some 13), .cn (.t 65), none, []⟩,
            ⟨(some 14), .mv (.t 66), none, []⟩])
          (.seq
           (.reg [] [
             ⟨(some 67), .mv (.t 5), none, []⟩,
             ⟨(some 68), .mv (.t 67), none, []⟩,
             ⟨(some 69), .mv (.t 10), (some (68, true)), []⟩,
             ⟨(some 70), .pick (.t 68) (.t 69) (.k (.bool false)), none, []⟩,
             ⟨(some 71), .mv (.t 70), none, []⟩,
             ⟨(some 72), .mv (.t 9), (some (71, true)), []⟩,
             ⟨(some 73), .bin (.iface ty_api_Code true) .eql (.t 72) (.k .nilIface), (some (71, true)), []⟩,
             ⟨(some 74), .pick (.t 71) (.t 73) (.k (.bool false)), none, []⟩,
             ⟨(some 75), .mv (.t 74), none, []⟩,
             ⟨(some 76), .mv (.t 14), (some (75, true)), []⟩,
             ⟨(some 77), .bin (.iface ty_api_Code true) .eql (.t 76) (.k .nilIface), (some (75, true)), []⟩,
             ⟨(some 78), .pick (.t 75) (.t 77) (.k (.bool false)), none, []⟩,
             ⟨(some 79), .mv (.t 78), none, []⟩,
             ⟨(some 80), .cn (.t 13), (some (79, true)), []⟩,
             ⟨(some 81), .load true 5 (.t 6), (some (79, true)), []⟩,
             ⟨(some 82), .load true 3 (.t 3), (some (79, true)), []⟩,
             ⟨(some 83), .qcall n_ref06_Range [(.t 81), (.t 82)] [], (some (79, true)), []⟩,
             ⟨(some 84), .qcall n_ref06_Same [(.t 80), (.t 83)] [], (some (79, true)), []⟩,
             ⟨(some 85), .pick (.t 79) (.t 84) (.k (.bool false)), none, []⟩,
             ⟨(some 86), .mv (.t 85), none, []⟩,
             ⟨(some 87), .load true 5 (.t 7), (some (86, true)), []⟩,
             ⟨(some 88), .load true 5 (.t 6), (some (86, true)), []⟩,
             ⟨(some 89), .qcall n_ref04_Same [(.t 87), (.t 88)] [], (some (86, true)), []⟩,
             ⟨(some 90), .pick (.t 86) (.t 89) (.k (.bool false)), none, []⟩,
             ⟨(some 4), .mv (.t 90), none, []⟩])
           (.ret i_law06_ScanStays_r)))
theorem tail_ev (l : List KV) (f g : List UInt8) (o : Bool) (t : T) (hs : t.size ≤ 1048576) (hi : t.isA = true) : app tab G0 3 [] (ex tab G0 3 tailIR (p7S l f g o t)) = some (.ret, s_law06_ScanStays_R (bo true) [none, none, none]) := by
  have h2 := scan_Range_y t hs f g o hi
  have h4 := ref06_Range_ev t hs f g o hi
  have hf := chk_formed (isA_chk hi)
  have hz := rngL_len f g o t.list
  have hl := list_size t hf
  have h5 := ref06_Same_ev (rngL f g o t.list) (rngL f g o t.list) (by omega) (by omega)
  rw [sameP_self] at h5
  have h6 := ref04_Same_self t hs
  generalize rngL f g o t.list = z at *
  simp (maxSteps := 1000000) (disch := first | omega | (simp only [List.length_cons, List.length_nil, List.length_append, List.length_map, List.length_take, List.length_drop]; omega)) only [go_sem, ↓reduceIte, Nat.reduceSub, Nat.reduceAdd, Nat.reduceMul, Nat.reduceLeDiff, Nat.reduceLT, Nat.reduceEqDiff, Nat.reduceBEq, Int.reduceLE, Int.reduceLT, Int.reduceEq, Int.reduceNeg, Int.reduceAdd, Int.reduceSub, Int.reduceMul, Int.reduceToNat, tailIR, h2, h4, h5, h6]


end Go.Proofs.Ytfihodpdjpcpfaa
