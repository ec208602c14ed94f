/-
  A tree into which pairs were put.
-/
import Derived.Test.YtfihodpdjpcpfaaLHold2
import Derived.Test.YtfihodpdjpcpfaaLRange
set_option linter.unusedSimpArgs false
set_option linter.unusedVariables false
set_option maxRecDepth 200000
set_option maxHeartbeats 4000000
namespace Go.Proofs.Ytfihodpdjpcpfaa
open Go.Ev

theorem grown_loop (l : List KV) (hl : l.length ≤ 1048576) : ∀ (n i : Nat) (b : B) (hv : List KV), n + i = min l.length 60 → Kept b hv i →
    ∃ b' hv', Kept b' hv' 60 ∧ L_ref05_Grown_0 (s_ref05_Grown_K0 (.sl true (eP l)) (.ptr 0 0) (.ptr 1 0) (i64 i) [some oZ5, some (oT b.t)]) = some (.exit 0, s_ref05_Grown_J0 (.ptr 0 0) (.ptr 1 0) [some oZ5, some (oT b'.t)])
  | 0, i, b, hv, h, hk => by
    refine ⟨b, hv, ⟨hk.good, hk.perm, by have := hk.few; omega⟩, ?_⟩
    rw [L_ref05_Grown_0_eq]
    generalize b.t = t at *
    by_cases hc : i < l.length
    · simp (maxSteps := 1000000) (disch := first | omega | (simp only [List.length_cons, List.length_nil, List.length_append, List.length_map, List.length_take, List.length_drop]; omega)) only [go_sem, ↓reduceIte, Nat.reduceSub, Nat.reduceAdd, Nat.reduceMul, Nat.reduceLeDiff, Nat.reduceLT, Nat.reduceEqDiff, Nat.reduceBEq, Int.reduceLE, Int.reduceLT, Int.reduceEq, Int.reduceNeg, Int.reduceAdd, Int.reduceSub, Int.reduceMul, Int.reduceToNat, i_ref05_Grown_b0]
    · simp (maxSteps := 1000000) (disch := first | omega | (simp only [List.length_cons, List.length_nil, List.length_append, List.length_map, List.length_take, List.length_drop]; omega)) only [go_sem, ↓reduceIte, Nat.reduceSub, Nat.reduceAdd, Nat.reduceMul, Nat.reduceLeDiff, Nat.reduceLT, Nat.reduceEqDiff, Nat.reduceBEq, Int.reduceLE, Int.reduceLT, Int.reduceEq, Int.reduceNeg, Int.reduceAdd, Int.reduceSub, Int.reduceMul, Int.reduceToNat, i_ref05_Grown_b0]
  | n + 1, i, b, hv, h, hk => by
    obtain ⟨s1, s2, s3⟩ := hk.size (by omega)
    rw [L_ref05_Grown_0_eq]
    generalize hd : l.getD i ([], []) = d at *
    by_cases ck : d.1.length ≤ 80
    · by_cases cv : d.2.length ≤ 1024
      · obtain ⟨b', hv', k1, k2⟩ := grown_loop l hl n (i + 1) (b.put d.1 d.2) (hv.filter (notK d.1) ++ [(d.1, d.2)]) (by omega) (hk.put d.1 d.2 ck cv)
        refine ⟨b', hv', k1, ?_⟩
        have h2 := ref05_Put_ev b d.1 d.2 hk.good.ok hk.good.bal ck cv (by omega)
        generalize b.put d.1 d.2 = p at *
        simp only [avB] at *
        generalize p.t = pt at *
        generalize b.t = t at *
        generalize b'.t = t' at *
        try simp (maxSteps := 1000000) (disch := first | omega | (simp only [List.length_cons, List.length_nil, List.length_append, List.length_map, List.length_take, List.length_drop]; omega)) only [go_sem, ↓reduceIte, Nat.reduceSub, Nat.reduceAdd, Nat.reduceMul, Nat.reduceLeDiff, Nat.reduceLT, Nat.reduceEqDiff, Nat.reduceBEq, Int.reduceLE, Int.reduceLT, Int.reduceEq, Int.reduceNeg, Int.reduceAdd, Int.reduceSub, Int.reduceMul, Int.reduceToNat] at k2
        simp (maxSteps := 1000000) (disch := first | omega | (simp only [List.length_cons, List.length_nil, List.length_append, List.length_map, List.length_take, List.length_drop]; omega)) only [go_sem, ↓reduceIte, Nat.reduceSub, Nat.reduceAdd, Nat.reduceMul, Nat.reduceLeDiff, Nat.reduceLT, Nat.reduceEqDiff, Nat.reduceBEq, Int.reduceLE, Int.reduceLT, Int.reduceEq, Int.reduceNeg, Int.reduceAdd, Int.reduceSub, Int.reduceMul, Int.reduceToNat, i_ref05_Grown_b0, hd, h2, k2]
      · obtain ⟨b', hv', k1, k2⟩ := grown_loop l hl n (i + 1) b hv (by omega) hk.more
        refine ⟨b', hv', k1, ?_⟩
        generalize b.t = t at *
        generalize b'.t = t' at *
        try simp (maxSteps := 1000000) (disch := first | omega | (simp only [List.length_cons, List.length_nil, List.length_append, List.length_map, List.length_take, List.length_drop]; omega)) only [go_sem, ↓reduceIte, Nat.reduceSub, Nat.reduceAdd, Nat.reduceMul, Nat.reduceLeDiff, Nat.reduceLT, Nat.reduceEqDiff, Nat.reduceBEq, Int.reduceLE, Int.reduceLT, Int.reduceEq, Int.reduceNeg, Int.reduceAdd, Int.reduceSub, Int.reduceMul, Int.reduceToNat] at k2
        simp (maxSteps := 1000000) (disch := first | omega | (simp only [List.length_cons, List.length_nil, List.length_append, List.length_map, List.length_take, List.length_drop]; omega)) only [go_sem, ↓reduceIte, Nat.reduceSub, Nat.reduceAdd, Nat.reduceMul, Nat.reduceLeDiff, Nat.reduceLT, Nat.reduceEqDiff, Nat.reduceBEq, Int.reduceLE, Int.reduceLT, Int.reduceEq, Int.reduceNeg, Int.reduceAdd, Int.reduceSub, Int.reduceMul, Int.reduceToNat, i_ref05_Grown_b0, hd, k2]
    · obtain ⟨b', hv', k1, k2⟩ := grown_loop l hl n (i + 1) b hv (by omega) hk.more
      refine ⟨b', hv', k1, ?_⟩
      generalize b.t = t at *
      generalize b'.t = t' at *
      try simp (maxSteps := 1000000) (disch := first | omega | (simp only [List.length_cons, List.length_nil, List.length_append, List.length_map, List.length_take, List.length_drop]; omega)) only [go_sem, ↓reduceIte, Nat.reduceSub, Nat.reduceAdd, Nat.reduceMul, Nat.reduceLeDiff, Nat.reduceLT, Nat.reduceEqDiff, Nat.reduceBEq, Int.reduceLE, Int.reduceLT, Int.reduceEq, Int.reduceNeg, Int.reduceAdd, Int.reduceSub, Int.reduceMul, Int.reduceToNat] at k2
      simp (maxSteps := 1000000) (disch := first | omega | (simp only [List.length_cons, List.length_nil, List.length_append, List.length_map, List.length_take, List.length_drop]; omega)) only [go_sem, ↓reduceIte, Nat.reduceSub, Nat.reduceAdd, Nat.reduceMul, Nat.reduceLeDiff, Nat.reduceLT, Nat.reduceEqDiff, Nat.reduceBEq, Int.reduceLE, Int.reduceLT, Int.reduceEq, Int.reduceNeg, Int.reduceAdd, Int.reduceSub, Int.reduceMul, Int.reduceToNat, i_ref05_Grown_b0, hd, k2]
theorem grown_loopZ (l : List KV) (hl : l.length ≤ 1048576) : ∀ (n i : Nat), n + i = min l.length 60 →
    ∃ o b' hv', Kept b' hv' 60 ∧ (o = oT b'.t ∨ (o = oZ5 ∧ b' = .n)) ∧ L_ref05_Grown_0 (s_ref05_Grown_K0 (.sl true (eP l)) (.ptr 0 0) (.ptr 1 0) (i64 i) [some oZ5, some oZ5]) = some (.exit 0, s_ref05_Grown_J0 (.ptr 0 0) (.ptr 1 0) [some oZ5, some o])
  | 0, i, h => by
    refine ⟨oZ5, .n, [], ⟨n_good, .nil, by simp [B.list]⟩, .inr ⟨rfl, rfl⟩, ?_⟩
    rw [L_ref05_Grown_0_eq]
    by_cases hc : i < l.length
    · simp (maxSteps := 1000000) (disch := first | omega | (simp only [List.length_cons, List.length_nil, List.length_append, List.length_map, List.length_take, List.length_drop]; omega)) only [go_sem, ↓reduceIte, Nat.reduceSub, Nat.reduceAdd, Nat.reduceMul, Nat.reduceLeDiff, Nat.reduceLT, Nat.reduceEqDiff, Nat.reduceBEq, Int.reduceLE, Int.reduceLT, Int.reduceEq, Int.reduceNeg, Int.reduceAdd, Int.reduceSub, Int.reduceMul, Int.reduceToNat, i_ref05_Grown_b0]
    · simp (maxSteps := 1000000) (disch := first | omega | (simp only [List.length_cons, List.length_nil, List.length_append, List.length_map, List.length_take, List.length_drop]; omega)) only [go_sem, ↓reduceIte, Nat.reduceSub, Nat.reduceAdd, Nat.reduceMul, Nat.reduceLeDiff, Nat.reduceLT, Nat.reduceEqDiff, Nat.reduceBEq, Int.reduceLE, Int.reduceLT, Int.reduceEq, Int.reduceNeg, Int.reduceAdd, Int.reduceSub, Int.reduceMul, Int.reduceToNat, i_ref05_Grown_b0]
  | n + 1, i, h => by
    have hk0 : Kept .n [] i := ⟨n_good, .nil, by simp [B.list]⟩
    obtain ⟨s1, s2, s3⟩ := hk0.size (by omega)
    rw [L_ref05_Grown_0_eq]
    generalize hd : l.getD i ([], []) = d at *
    by_cases ck : d.1.length ≤ 80
    · by_cases cv : d.2.length ≤ 1024
      · obtain ⟨b', hv', k1, k2⟩ := grown_loop l hl n (i + 1) (B.n.put d.1 d.2) [(d.1, d.2)] (by omega) (hk0.put d.1 d.2 ck cv)
        refine ⟨_, b', hv', k1, .inl rfl, ?_⟩
        have h2 := ref05_Put_ev .n d.1 d.2 hk0.good.ok hk0.good.bal ck cv (by omega)
        generalize B.n.put d.1 d.2 = p at *
        simp only [avB_n] at h2
        simp only [avB] at *
        generalize p.t = pt at *
        generalize b'.t = t' at *
        try simp (maxSteps := 1000000) (disch := first | omega | (simp only [List.length_cons, List.length_nil, List.length_append, List.length_map, List.length_take, List.length_drop]; omega)) only [go_sem, ↓reduceIte, Nat.reduceSub, Nat.reduceAdd, Nat.reduceMul, Nat.reduceLeDiff, Nat.reduceLT, Nat.reduceEqDiff, Nat.reduceBEq, Int.reduceLE, Int.reduceLT, Int.reduceEq, Int.reduceNeg, Int.reduceAdd, Int.reduceSub, Int.reduceMul, Int.reduceToNat] at k2
        simp (maxSteps := 1000000) (disch := first | omega | (simp only [List.length_cons, List.length_nil, List.length_append, List.length_map, List.length_take, List.length_drop]; omega)) only [go_sem, ↓reduceIte, Nat.reduceSub, Nat.reduceAdd, Nat.reduceMul, Nat.reduceLeDiff, Nat.reduceLT, Nat.reduceEqDiff, Nat.reduceBEq, Int.reduceLE, Int.reduceLT, Int.reduceEq, Int.reduceNeg, Int.reduceAdd, Int.reduceSub, Int.reduceMul, Int.reduceToNat, i_ref05_Grown_b0, hd, h2, k2]
      · obtain ⟨o, b', hv', k1, k3, k2⟩ := grown_loopZ l hl n (i + 1) (by omega)
        refine ⟨o, b', hv', k1, k3, ?_⟩
        try simp (maxSteps := 1000000) (disch := first | omega | (simp only [List.length_cons, List.length_nil, List.length_append, List.length_map, List.length_take, List.length_drop]; omega)) only [go_sem, ↓reduceIte, Nat.reduceSub, Nat.reduceAdd, Nat.reduceMul, Nat.reduceLeDiff, Nat.reduceLT, Nat.reduceEqDiff, Nat.reduceBEq, Int.reduceLE, Int.reduceLT, Int.reduceEq, Int.reduceNeg, Int.reduceAdd, Int.reduceSub, Int.reduceMul, Int.reduceToNat] at k2
        simp (maxSteps := 1000000) (disch := first | omega | (simp only [List.length_cons, List.length_nil, List.length_append, List.length_map, List.length_take, List.length_drop]; omega)) only [go_sem, ↓reduceIte, Nat.reduceSub, Nat.reduceAdd, Nat.reduceMul, Nat.reduceLeDiff, Nat.reduceLT, Nat.reduceEqDiff, Nat.reduceBEq, Int.reduceLE, Int.reduceLT, Int.reduceEq, Int.reduceNeg, Int.reduceAdd, Int.reduceSub, Int.reduceMul, Int.reduceToNat, i_ref05_Grown_b0, hd, k2]
    · obtain ⟨o, b', hv', k1, k3, k2⟩ := grown_loopZ l hl n (i + 1) (by omega)
      refine ⟨o, b', hv', k1, k3, ?_⟩
      try simp (maxSteps := 1000000) (disch := first | omega | (simp only [List.length_cons, List.length_nil, List.length_append, List.length_map, List.length_take, List.length_drop]; omega)) only [go_sem, ↓reduceIte, Nat.reduceSub, Nat.reduceAdd, Nat.reduceMul, Nat.reduceLeDiff, Nat.reduceLT, Nat.reduceEqDiff, Nat.reduceBEq, Int.reduceLE, Int.reduceLT, Int.reduceEq, Int.reduceNeg, Int.reduceAdd, Int.reduceSub, Int.reduceMul, Int.reduceToNat] at k2
      simp (maxSteps := 1000000) (disch := first | omega | (simp only [List.length_cons, List.length_nil, List.length_append, List.length_map, List.length_take, List.length_drop]; omega)) only [go_sem, ↓reduceIte, Nat.reduceSub, Nat.reduceAdd, Nat.reduceMul, Nat.reduceLeDiff, Nat.reduceLT, Nat.reduceEqDiff, Nat.reduceBEq, Int.reduceLE, Int.reduceLT, Int.reduceEq, Int.reduceNeg, Int.reduceAdd, Int.reduceSub, Int.reduceMul, Int.reduceToNat, i_ref05_Grown_b0, hd, k2]
theorem ref05_Grown_ev (l : List KV) (hl : l.length ≤ 1048576) : ∃ b hv, Kept b hv 60 ∧ Ev tab G0 n_ref05_Grown [.sl true (eP l)] [] = some ([avB b], []) := by
  obtain ⟨o, b, hv, hk, hor, h1⟩ := grown_loopZ l hl (min l.length 60) 0 (by omega)
  refine ⟨b, hv, hk, ?_⟩
  have e0 : ((0 : Nat) : Int) = 0 := rfl
  rw [e0] at h1
  refine Ev_run t_ref05_Grown rfl rfl ?_
  rcases hor with rfl | ⟨rfl, rfl⟩
  · simp only [avB]
    generalize b.t = t at *
    simp (maxSteps := 1000000) (disch := first | omega | (simp only [List.length_cons, List.length_nil, List.length_append, List.length_map, List.length_take, List.length_drop]; omega)) only [go_sem, ↓reduceIte, Nat.reduceSub, Nat.reduceAdd, Nat.reduceMul, Nat.reduceLeDiff, Nat.reduceLT, Nat.reduceEqDiff, Nat.reduceBEq, Int.reduceLE, Int.reduceLT, Int.reduceEq, Int.reduceNeg, Int.reduceAdd, Int.reduceSub, Int.reduceMul, Int.reduceToNat, i_ref05_Grown, h1]
  · simp only [avB_n]
    simp (maxSteps := 1000000) (disch := first | omega | (simp only [List.length_cons, List.length_nil, List.length_append, List.length_map, List.length_take, List.length_drop]; omega)) only [go_sem, ↓reduceIte, Nat.reduceSub, Nat.reduceAdd, Nat.reduceMul, Nat.reduceLeDiff, Nat.reduceLT, Nat.reduceEqDiff, Nat.reduceBEq, Int.reduceLE, Int.reduceLT, Int.reduceEq, Int.reduceNeg, Int.reduceAdd, Int.reduceSub, Int.reduceMul, Int.reduceToNat, i_ref05_Grown, h1]

end Go.Proofs.Ytfihodpdjpcpfaa
