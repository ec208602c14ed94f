/-
  Whatever is laid together has the head's digest: the law.
-/
import Derived.Test.YtebiajdkgpcidaaDoorLSmall11
set_option linter.unusedSimpArgs false
set_option linter.unusedVariables false
set_option maxRecDepth 200000
set_option maxHeartbeats 4000000
namespace Go.Proofs.YtebiajdkgpcidaaDoor
open Go.Ev

theorem call_loop (l : List T) (hl : l.length ≤ 1048576) (hk : ∀ k ∈ l, k.size ≤ 1048576) : ∀ (n i : Nat), n + i = l.length → ∃ r : Bool, L_law11_all_0 (s_law11_all_K0 (.sl true (eT l)) (i64 i) []) = if r = true then some (.exit 0, s_law11_all_J0 []) else some (.ret, s_law11_all_R (bo false) [])
  | 0, i, h => by
    refine ⟨true, ?_⟩
    rw [if_pos rfl, L_law11_all_0_eq]
    simp (maxSteps := 1000000) (disch := first | omega | (simp only [List.length_cons, List.length_nil, List.length_append, List.length_map, List.length_take, List.length_drop]; omega)) only [go_sem, ↓reduceIte, Nat.reduceSub, Nat.reduceAdd, Nat.reduceMul, Nat.reduceLeDiff, Nat.reduceLT, Nat.reduceEqDiff, Nat.reduceBEq, Int.reduceLE, Int.reduceLT, Int.reduceEq, Int.reduceNeg, Int.reduceAdd, Int.reduceSub, Int.reduceMul, Int.reduceToNat, i_law11_all_b0]
  | n + 1, i, h => by
    obtain ⟨r, ih⟩ := call_loop l hl hk n (i + 1) (by omega)
    have h1 := small11_ev _ (hk _ (getD_mem' (d := .no) (i := i) (by omega)))
    rw [L_law11_all_0_eq]
    generalize hd : l.getD i .no = k at *
    try simp (maxSteps := 1000000) (disch := first | omega | (simp only [List.length_cons, List.length_nil, List.length_append, List.length_map, List.length_take, List.length_drop]; omega)) only [go_sem, ↓reduceIte, Nat.reduceSub, Nat.reduceAdd, Nat.reduceMul, Nat.reduceLeDiff, Nat.reduceLT, Nat.reduceEqDiff, Nat.reduceBEq, Int.reduceLE, Int.reduceLT, Int.reduceEq, Int.reduceNeg, Int.reduceAdd, Int.reduceSub, Int.reduceMul, Int.reduceToNat] at ih
    cases hs : decide (0 ≤ k.light 200 100)
    · rw [hs] at h1
      refine ⟨false, ?_⟩
      rw [if_neg (by simp)]
      simp (maxSteps := 1000000) (disch := first | omega | (simp only [List.length_cons, List.length_nil, List.length_append, List.length_map, List.length_take, List.length_drop]; omega)) only [go_sem, ↓reduceIte, Nat.reduceSub, Nat.reduceAdd, Nat.reduceMul, Nat.reduceLeDiff, Nat.reduceLT, Nat.reduceEqDiff, Nat.reduceBEq, Int.reduceLE, Int.reduceLT, Int.reduceEq, Int.reduceNeg, Int.reduceAdd, Int.reduceSub, Int.reduceMul, Int.reduceToNat, i_law11_all_b0, hd, h1]
    · rw [hs] at h1
      refine ⟨r, ?_⟩
      simp (maxSteps := 1000000) (disch := first | omega | (simp only [List.length_cons, List.length_nil, List.length_append, List.length_map, List.length_take, List.length_drop]; omega)) only [go_sem, ↓reduceIte, Nat.reduceSub, Nat.reduceAdd, Nat.reduceMul, Nat.reduceLeDiff, Nat.reduceLT, Nat.reduceEqDiff, Nat.reduceBEq, Int.reduceLE, Int.reduceLT, Int.reduceEq, Int.reduceNeg, Int.reduceAdd, Int.reduceSub, Int.reduceMul, Int.reduceToNat, i_law11_all_b0, hd, h1, ih]
theorem call_ev (l : List T) (hl : l.length ≤ 1048576) (hk : ∀ k ∈ l, k.size ≤ 1048576) : ∃ r : Bool, Ev tab G0 n_law11_all [.sl true (eT l)] [] = some ([bo r], []) := by
  obtain ⟨r, h⟩ := call_loop l hl hk l.length 0 (by omega)
  have e0 : ((0 : Nat) : Int) = 0 := rfl
  rw [e0] at h
  by_cases h40 : 40 < l.length
  · refine ⟨false, Ev_run t_law11_all rfl rfl ?_⟩
    simp (maxSteps := 1000000) (disch := first | omega | (simp only [List.length_cons, List.length_nil, List.length_append, List.length_map, List.length_take, List.length_drop]; omega)) only [go_sem, ↓reduceIte, Nat.reduceSub, Nat.reduceAdd, Nat.reduceMul, Nat.reduceLeDiff, Nat.reduceLT, Nat.reduceEqDiff, Nat.reduceBEq, Int.reduceLE, Int.reduceLT, Int.reduceEq, Int.reduceNeg, Int.reduceAdd, Int.reduceSub, Int.reduceMul, Int.reduceToNat, i_law11_all]
  · refine ⟨r, Ev_run t_law11_all rfl rfl ?_⟩
    cases r
    · rw [if_neg (by simp)] at h
      simp (maxSteps := 1000000) (disch := first | omega | (simp only [List.length_cons, List.length_nil, List.length_append, List.length_map, List.length_take, List.length_drop]; omega)) only [go_sem, ↓reduceIte, Nat.reduceSub, Nat.reduceAdd, Nat.reduceMul, Nat.reduceLeDiff, Nat.reduceLT, Nat.reduceEqDiff, Nat.reduceBEq, Int.reduceLE, Int.reduceLT, Int.reduceEq, Int.reduceNeg, Int.reduceAdd, Int.reduceSub, Int.reduceMul, Int.reduceToNat, i_law11_all, h]
    · rw [if_pos rfl] at h
      simp (maxSteps := 1000000) (disch := first | omega | (simp only [List.length_cons, List.length_nil, List.length_append, List.length_map, List.length_take, List.length_drop]; omega)) only [go_sem, ↓reduceIte, Nat.reduceSub, Nat.reduceAdd, Nat.reduceMul, Nat.reduceLeDiff, Nat.reduceLT, Nat.reduceEqDiff, Nat.reduceBEq, Int.reduceLE, Int.reduceLT, Int.reduceEq, Int.reduceNeg, Int.reduceAdd, Int.reduceSub, Int.reduceMul, Int.reduceToNat, i_law11_all, h]
theorem law_ChunkRoots (w : Int) (t : T) (ps : List T) (hw : -9223372036854775808 ≤ w ∧ w < 9223372036854775808) (hs : t.size + sizeL ps ≤ 1048576) : ∃ outs, Ev tab G0 n_law11_ChunkRoots [i64 w, avT t, .sl true (eT ps)] [] = some ([bo true], outs) := by
  have h0 := up11_ev
  have h1 := small11_ev t (by omega)
  have hll := sizeL_len ps
  obtain ⟨r, h2⟩ := call_ev ps (by omega) (fun k hk => by have := sizeL_mem hk; omega)
  refine ⟨[], Ev_run t_law11_ChunkRoots rfl rfl ?_⟩
  cases hl : decide (0 ≤ t.light 200 100)
  · rw [hl] at h1
    simp (maxSteps := 1000000) (disch := first | omega | (simp only [List.length_cons, List.length_nil, List.length_append, List.length_map, List.length_take, List.length_drop]; omega)) only [go_sem, ↓reduceIte, Nat.reduceSub, Nat.reduceAdd, Nat.reduceMul, Nat.reduceLeDiff, Nat.reduceLT, Nat.reduceEqDiff, Nat.reduceBEq, Int.reduceLE, Int.reduceLT, Int.reduceEq, Int.reduceNeg, Int.reduceAdd, Int.reduceSub, Int.reduceMul, Int.reduceToNat, i_law11_ChunkRoots, h0, h1]
  · rw [hl] at h1
    cases r
    · simp (maxSteps := 1000000) (disch := first | omega | (simp only [List.length_cons, List.length_nil, List.length_append, List.length_map, List.length_take, List.length_drop]; omega)) only [go_sem, ↓reduceIte, Nat.reduceSub, Nat.reduceAdd, Nat.reduceMul, Nat.reduceLeDiff, Nat.reduceLT, Nat.reduceEqDiff, Nat.reduceBEq, Int.reduceLE, Int.reduceLT, Int.reduceEq, Int.reduceNeg, Int.reduceAdd, Int.reduceSub, Int.reduceMul, Int.reduceToNat, i_law11_ChunkRoots, h0, h1, h2]
    · by_cases hj : joinOk w t ps
      · have h3 := chunk_Join_good w t ps hs hj
        obtain ⟨hfl, d, hd1, hd2⟩ := join_law hj
        obtain ⟨hg, hc, hlen, hdr, hn, hu⟩ := hj
        have hfs := fill_size t (chk_formed hc) ps (by omega)
        have htk := sizeL_take ps t.cuts.length
        have h4 := tree_Digest_ev w hg t (by omega)
        have h5 := tree_Digest_ev w hg (t.fill ps).1 (by omega)
        have h6 := tree_Full_ev (t.fill ps).1 (by omega)
        rw [if_pos hc, hd1] at h4
        rw [if_pos hu, hd2] at h5
        rw [decide_eq_true hu, hfl, Bool.true_and] at h6
        simp only [dgV, dgE] at h4 h5
        have hdd : (d == d) = true := beq_self_eq_true _
        generalize (t.fill ps).1 = u at *
        simp (maxSteps := 1000000) (disch := first | omega | (simp only [List.length_cons, List.length_nil, List.length_append, List.length_map, List.length_take, List.length_drop]; omega)) only [go_sem, ↓reduceIte, Nat.reduceSub, Nat.reduceAdd, Nat.reduceMul, Nat.reduceLeDiff, Nat.reduceLT, Nat.reduceEqDiff, Nat.reduceBEq, Int.reduceLE, Int.reduceLT, Int.reduceEq, Int.reduceNeg, Int.reduceAdd, Int.reduceSub, Int.reduceMul, Int.reduceToNat, i_law11_ChunkRoots, h0, h1, h2, h3, h4, h5, h6, hdd]
      · have e0 : avT T.no = .agg [i64 0, .sl true [], .sl true [], .sl true [], .sl true []] := rfl
        rcases chunk_Join_bad w t ps hw hs hj with ⟨c, h3⟩ | ⟨j, h3⟩
        · rw [e0] at h3
          simp (maxSteps := 1000000) (disch := first | omega | (simp only [List.length_cons, List.length_nil, List.length_append, List.length_map, List.length_take, List.length_drop]; omega)) only [go_sem, ↓reduceIte, Nat.reduceSub, Nat.reduceAdd, Nat.reduceMul, Nat.reduceLeDiff, Nat.reduceLT, Nat.reduceEqDiff, Nat.reduceBEq, Int.reduceLE, Int.reduceLT, Int.reduceEq, Int.reduceNeg, Int.reduceAdd, Int.reduceSub, Int.reduceMul, Int.reduceToNat, i_law11_ChunkRoots, h0, h1, h2, h3]
        · rw [e0] at h3
          simp (maxSteps := 1000000) (disch := first | omega | (simp only [List.length_cons, List.length_nil, List.length_append, List.length_map, List.length_take, List.length_drop]; omega)) only [go_sem, ↓reduceIte, Nat.reduceSub, Nat.reduceAdd, Nat.reduceMul, Nat.reduceLeDiff, Nat.reduceLT, Nat.reduceEqDiff, Nat.reduceBEq, Int.reduceLE, Int.reduceLT, Int.reduceEq, Int.reduceNeg, Int.reduceAdd, Int.reduceSub, Int.reduceMul, Int.reduceToNat, i_law11_ChunkRoots, h0, h1, h2, h3]

end Go.Proofs.YtebiajdkgpcidaaDoor
