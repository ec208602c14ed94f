/-
  Whatever is laid together, or what is amiss first: the law.
-/
import Derived.Test.YtdngljdbgepaiaaGreatDoorLJoinE
set_option linter.unusedSimpArgs false
set_option linter.unusedVariables false
set_option maxRecDepth 200000
set_option maxHeartbeats 4000000
namespace Go.Proofs.YtdngljdbgepaiaaGreatDoor
open Go.Ev

theorem call_loop (l : List T) (hl : l.length ≤ 1048576) (hk : ∀ k ∈ l, k.size ≤ 1048576) : ∀ (n i : Nat), n + i = l.length → ∃ r : Bool, L_law11_all_0 (s_law11_all_K0 (.sl true (eT l)) (i64 i) []) = if r = true then some (.exit 0, s_law11_all_J0 []) else some (.ret, s_law11_all_R (bo false) [])
  | 0, i, h => by
    refine ⟨true, ?_⟩
    rw [if_pos rfl, L_law11_all_0_eq]
    simp (maxSteps := 1000000) (disch := first | omega | (simp only [lens, List.length_map]; omega)) only [go_sem, ↓reduceIte, Nat.reduceSub, Nat.reduceAdd, Nat.reduceMul, Nat.reduceLeDiff, Nat.reduceLT, Nat.reduceEqDiff, Nat.reduceBEq, Int.reduceLE, Int.reduceLT, Int.reduceEq, Int.reduceNeg, Int.reduceAdd, Int.reduceSub, Int.reduceMul, Int.reduceToNat, i_law11_all_b0]
  | n + 1, i, h => by
    obtain ⟨r, ih⟩ := call_loop l hl hk n (i + 1) (by omega)
    have h1 := small11_ev _ (hk _ (getD_mem' (d := .no) (i := i) (by omega)))
    rw [L_law11_all_0_eq]
    generalize hd : l.getD i .no = k at *
    try simp (maxSteps := 1000000) (disch := first | omega | (simp only [lens, List.length_map]; omega)) only [go_sem, ↓reduceIte, Nat.reduceSub, Nat.reduceAdd, Nat.reduceMul, Nat.reduceLeDiff, Nat.reduceLT, Nat.reduceEqDiff, Nat.reduceBEq, Int.reduceLE, Int.reduceLT, Int.reduceEq, Int.reduceNeg, Int.reduceAdd, Int.reduceSub, Int.reduceMul, Int.reduceToNat] at ih
    cases hs : decide (0 ≤ k.light 200 100)
    · rw [hs] at h1
      refine ⟨false, ?_⟩
      rw [if_neg (by simp)]
      simp (maxSteps := 1000000) (disch := first | omega | (simp only [lens, List.length_map]; omega)) only [go_sem, ↓reduceIte, Nat.reduceSub, Nat.reduceAdd, Nat.reduceMul, Nat.reduceLeDiff, Nat.reduceLT, Nat.reduceEqDiff, Nat.reduceBEq, Int.reduceLE, Int.reduceLT, Int.reduceEq, Int.reduceNeg, Int.reduceAdd, Int.reduceSub, Int.reduceMul, Int.reduceToNat, i_law11_all_b0, hd, h1]
    · rw [hs] at h1
      refine ⟨r, ?_⟩
      simp (maxSteps := 1000000) (disch := first | omega | (simp only [lens, List.length_map]; omega)) only [go_sem, ↓reduceIte, Nat.reduceSub, Nat.reduceAdd, Nat.reduceMul, Nat.reduceLeDiff, Nat.reduceLT, Nat.reduceEqDiff, Nat.reduceBEq, Int.reduceLE, Int.reduceLT, Int.reduceEq, Int.reduceNeg, Int.reduceAdd, Int.reduceSub, Int.reduceMul, Int.reduceToNat, i_law11_all_b0, hd, h1, ih]
theorem call_ev (l : List T) (hl : l.length ≤ 1048576) (hk : ∀ k ∈ l, k.size ≤ 1048576) : ∃ r : Bool, Ev tab G0 n_law11_all [.sl true (eT l)] [] = some ([bo r], []) := by
  obtain ⟨r, h⟩ := call_loop l hl hk l.length 0 (by omega)
  have e0 : ((0 : Nat) : Int) = 0 := rfl
  rw [e0] at h
  by_cases h40 : 40 < l.length
  · refine ⟨false, Ev_run t_law11_all rfl rfl ?_⟩
    simp (maxSteps := 1000000) (disch := first | omega | (simp only [lens, List.length_map]; omega)) only [go_sem, ↓reduceIte, Nat.reduceSub, Nat.reduceAdd, Nat.reduceMul, Nat.reduceLeDiff, Nat.reduceLT, Nat.reduceEqDiff, Nat.reduceBEq, Int.reduceLE, Int.reduceLT, Int.reduceEq, Int.reduceNeg, Int.reduceAdd, Int.reduceSub, Int.reduceMul, Int.reduceToNat, i_law11_all]
  · refine ⟨r, Ev_run t_law11_all rfl rfl ?_⟩
    cases r
    · rw [if_neg (by simp)] at h
      simp (maxSteps := 1000000) (disch := first | omega | (simp only [lens, List.length_map]; omega)) only [go_sem, ↓reduceIte, Nat.reduceSub, Nat.reduceAdd, Nat.reduceMul, Nat.reduceLeDiff, Nat.reduceLT, Nat.reduceEqDiff, Nat.reduceBEq, Int.reduceLE, Int.reduceLT, Int.reduceEq, Int.reduceNeg, Int.reduceAdd, Int.reduceSub, Int.reduceMul, Int.reduceToNat, i_law11_all, h]
    · rw [if_pos rfl] at h
      simp (maxSteps := 1000000) (disch := first | omega | (simp only [lens, List.length_map]; omega)) only [go_sem, ↓reduceIte, Nat.reduceSub, Nat.reduceAdd, Nat.reduceMul, Nat.reduceLeDiff, Nat.reduceLT, Nat.reduceEqDiff, Nat.reduceBEq, Int.reduceLE, Int.reduceLT, Int.reduceEq, Int.reduceNeg, Int.reduceAdd, Int.reduceSub, Int.reduceMul, Int.reduceToNat, i_law11_all, h]
theorem as_ev (i d : Int) : Ev tab G0 n_errors_As [.ifc ty_api_Spot (.ptr 0 0), .ifc ty_api_Spot_3 (.ptr 1 0)] [.var [i64 i, .s (.iface 42 (.int .i64 d))], .var [.s (.pointer none)]] = some ([bo true], [.var [i64 i, .s (.iface 42 (.int .i64 d))], .var [.ptr 0 0]]) := Ev_of rfl
theorem is_ev (i d : Int) : Ev tab G0 n_errors_Is [.ifc ty_api_Spot (.ptr 0 0), .s (.iface 42 (.int .i64 d))] [.var [i64 i, .s (.iface 42 (.int .i64 d))]] = some ([bo true], [.var [i64 i, .s (.iface 42 (.int .i64 d))]]) := by
  refine Ev_of ?_
  show (if d = d then some ([AV.s (.bool true)], [Ev.Obj.var [.s (.int .i64 i), .s (.iface 42 (.int .i64 d))]]) else none) = _
  rw [if_pos rfl]
theorem ca_errors_As (l : List AV) : cArgs tab n_errors_As l = l := rfl
theorem ca_errors_Is (l : List AV) : cArgs tab n_errors_Is l = l := rfl
theorem law00_Is_ev (j : Int) : Ev tab G0 n_law00_Is [.ifc ty_api_Spot (.ptr 0 0), i64 j, i64 6] [.var [i64 j, errA 6]] = some ([bo true], [.var [i64 j, errA 6]]) := by
  have h1 := as_ev j 6
  have h2 := is_ev j 6
  refine Ev_run t_law00_Is rfl rfl ?_
  simp (maxSteps := 1000000) (disch := first | omega | (simp only [lens, List.length_map]; omega)) only [go_sem, ↓reduceIte, Nat.reduceSub, Nat.reduceAdd, Nat.reduceMul, Nat.reduceLeDiff, Nat.reduceLT, Nat.reduceEqDiff, Nat.reduceBEq, Int.reduceLE, Int.reduceLT, Int.reduceEq, Int.reduceNeg, Int.reduceAdd, Int.reduceSub, Int.reduceMul, Int.reduceToNat, i_law00_Is, ca_errors_As, ca_errors_Is, h1, h2]
theorem law_ChunkJoins (w : Int) (t : T) (ps : List T) (hw : -9223372036854775808 ≤ w ∧ w < 9223372036854775808) (hs : t.size + sizeL ps ≤ 1048576) : ∃ outs, Ev tab G0 n_law11_ChunkJoins [i64 w, avT t, .sl true (eT ps)] [] = some ([bo true], outs) := by
  have h0 := up11_ev
  have h1 := small11_ev t (by omega)
  have hll := sizeL_len ps
  have hm := ref01_Made_ev
  obtain ⟨r, h2⟩ := call_ev ps (by omega) (fun k hk => by have := sizeL_mem hk; omega)
  have hj := join_both w t ps hw hs
  refine ⟨[], Ev_run t_law11_ChunkJoins rfl rfl ?_⟩
  cases hl : decide (0 ≤ t.light 200 100)
  · rw [hl] at h1
    simp (maxSteps := 1000000) (disch := first | omega | (simp only [lens, List.length_map]; omega)) only [go_sem, ↓reduceIte, Nat.reduceSub, Nat.reduceAdd, Nat.reduceMul, Nat.reduceLeDiff, Nat.reduceLT, Nat.reduceEqDiff, Nat.reduceBEq, Int.reduceLE, Int.reduceLT, Int.reduceEq, Int.reduceNeg, Int.reduceAdd, Int.reduceSub, Int.reduceMul, Int.reduceToNat, i_law11_ChunkJoins, h0, h1]
  · rw [hl] at h1
    cases r
    · simp (maxSteps := 1000000) (disch := first | omega | (simp only [lens, List.length_map]; omega)) only [go_sem, ↓reduceIte, Nat.reduceSub, Nat.reduceAdd, Nat.reduceMul, Nat.reduceLeDiff, Nat.reduceLT, Nat.reduceEqDiff, Nat.reduceBEq, Int.reduceLE, Int.reduceLT, Int.reduceEq, Int.reduceNeg, Int.reduceAdd, Int.reduceSub, Int.reduceMul, Int.reduceToNat, i_law11_ChunkJoins, h0, h1, h2]
    · rcases hj with ⟨u, c, hu, hc, a, b⟩ | ⟨j, hj, a, b⟩
      · have h3 := law00_Code_ev c (by omega)
        have h4 := ref04_Same_self u hu
        try simp (maxSteps := 1000000) (disch := first | omega | (simp only [lens, List.length_map]; omega)) only [go_sem, ↓reduceIte, Nat.reduceSub, Nat.reduceAdd, Nat.reduceMul, Nat.reduceLeDiff, Nat.reduceLT, Nat.reduceEqDiff, Nat.reduceBEq, Int.reduceLE, Int.reduceLT, Int.reduceEq, Int.reduceNeg, Int.reduceAdd, Int.reduceSub, Int.reduceMul, Int.reduceToNat] at b
        by_cases hz : c = 0
        · rw [errV, if_pos hz] at a h3
          simp (maxSteps := 1000000) (disch := first | omega | (simp only [lens, List.length_map]; omega)) only [go_sem, ↓reduceIte, Nat.reduceSub, Nat.reduceAdd, Nat.reduceMul, Nat.reduceLeDiff, Nat.reduceLT, Nat.reduceEqDiff, Nat.reduceBEq, Int.reduceLE, Int.reduceLT, Int.reduceEq, Int.reduceNeg, Int.reduceAdd, Int.reduceSub, Int.reduceMul, Int.reduceToNat, i_law11_ChunkJoins, h0, h1, h2, a, b, hm, h3, h4]
        · rw [errV, if_neg hz] at a h3
          simp (maxSteps := 1000000) (disch := first | omega | (simp only [lens, List.length_map]; omega)) only [go_sem, ↓reduceIte, Nat.reduceSub, Nat.reduceAdd, Nat.reduceMul, Nat.reduceLeDiff, Nat.reduceLT, Nat.reduceEqDiff, Nat.reduceBEq, Int.reduceLE, Int.reduceLT, Int.reduceEq, Int.reduceNeg, Int.reduceAdd, Int.reduceSub, Int.reduceMul, Int.reduceToNat, i_law11_ChunkJoins, h0, h1, h2, a, b, hm, h3, h4]
      · have h3 := law00_Is_ev j
        have h4 := ref04_Same_self T.no (by decide)
        have e0 : avT T.no = .agg [i64 0, .sl true [], .sl true [], .sl true [], .sl true []] := rfl
        rw [e0] at a b h4
        try simp (maxSteps := 1000000) (disch := first | omega | (simp only [lens, List.length_map]; omega)) only [go_sem, ↓reduceIte, Nat.reduceSub, Nat.reduceAdd, Nat.reduceMul, Nat.reduceLeDiff, Nat.reduceLT, Nat.reduceEqDiff, Nat.reduceBEq, Int.reduceLE, Int.reduceLT, Int.reduceEq, Int.reduceNeg, Int.reduceAdd, Int.reduceSub, Int.reduceMul, Int.reduceToNat] at b
        simp (maxSteps := 1000000) (disch := first | omega | (simp only [lens, List.length_map]; omega)) only [go_sem, ↓reduceIte, Nat.reduceSub, Nat.reduceAdd, Nat.reduceMul, Nat.reduceLeDiff, Nat.reduceLT, Nat.reduceEqDiff, Nat.reduceBEq, Int.reduceLE, Int.reduceLT, Int.reduceEq, Int.reduceNeg, Int.reduceAdd, Int.reduceSub, Int.reduceMul, Int.reduceToNat, i_law11_ChunkJoins, h0, h1, h2, a, b, hm, h3, h4]

end Go.Proofs.YtdngljdbgepaiaaGreatDoor
