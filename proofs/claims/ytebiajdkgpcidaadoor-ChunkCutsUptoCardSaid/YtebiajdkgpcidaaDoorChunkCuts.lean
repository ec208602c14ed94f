/-
  The head and the parts of any tree: the law.
-/
import Derived.Test.YtebiajdkgpcidaaDoorLChunk4
set_option linter.unusedSimpArgs false
set_option linter.unusedVariables false
set_option maxRecDepth 200000
set_option maxHeartbeats 4000000
namespace Go.Proofs.YtebiajdkgpcidaaDoor
open Go.Ev

theorem law_ChunkCuts (w : Int) (t : T) (n : Int) (hw : -9223372036854775808 ≤ w ∧ w < 9223372036854775808) (hs : t.size ≤ 1048576) (hn : -9223372036854775808 ≤ n ∧ n < 9223372036854775808) : ∃ outs, Ev tab G0 n_law11_ChunkCuts [i64 w, avT t, i64 n] [] = some ([bo true], outs) := by
  have h0 := up11_ev
  have h1 := small11_ev t hs
  have h2 := ref04_Check_ev t hs
  have h3 := Count_ev t hs
  have h4 := rCuts_ev t hs
  have hcs := cuts_size t
  have hdl := digs_len t.cuts
  have hm := ref01_Made_ev
  have h5 := ref04_Full_ev t hs
  refine ⟨[], Ev_run t_law11_ChunkCuts rfl rfl ?_⟩
  cases hl : decide (0 ≤ t.light 200 100)
  · rw [hl] at h1
    simp (maxSteps := 1000000) (disch := first | omega | (simp only [List.length_cons, List.length_nil, List.length_append, List.length_map, List.length_take, List.length_drop]; omega)) only [go_sem, ↓reduceIte, Nat.reduceSub, Nat.reduceAdd, Nat.reduceMul, Nat.reduceLeDiff, Nat.reduceLT, Nat.reduceEqDiff, Nat.reduceBEq, Int.reduceLE, Int.reduceLT, Int.reduceEq, Int.reduceNeg, Int.reduceAdd, Int.reduceSub, Int.reduceMul, Int.reduceToNat, i_law11_ChunkCuts, h0, h1]
  · rw [hl] at h1
    simp only [decide_eq_true_eq] at hl
    by_cases hz : cutC w t n = 0
    · have hn2 : 0 ≤ n ∧ n ≤ 64 ∧ (1 ≤ w ∧ w ≤ 32) ∧ t.chk = 0 ∧ (t.dig w).isSome = true ∧ t.full = true := by
        unfold cutC at hz
        split at hz
        · cases hz
        · split at hz
          · exact absurd hz (by assumption)
          · split at hz
            · cases hz
            · rename_i x1 x2 x3
              refine ⟨by omega, by omega, by omega, by omega, ?_, ?_⟩
              · cases e : (t.dig w).isSome
                · exact absurd (.inl e) x3
                · rfl
              · cases e : t.full
                · exact absurd (.inr e) x3
                · rfl
      obtain ⟨n1, n2, hg, hc, hd, hfl⟩ := hn2
      have en : ((n.toNat : Nat) : Int) = n := by omega
      have h6 := chunk_Cut_good w t n.toNat hs (by rw [en]; exact hz)
      have hf := chk_formed hc
      cases hdd : t.dig w with
      | none => rw [hdd] at hd; cases hd
      | some d =>
        have h7 := rCut_ev w hg t hf hfl hs n.toNat d (by omega) hdd
        have h8 := rdig_ev w hg t hf hs
        rw [rgV_some hdd, hdd] at h8
        simp only [Option.isSome] at h8
        have hsm := head_small w hg t hf hfl n.toNat d 200 100 hdd (by omega) hl
        have hll := light_le t 200 100 (by omega)
        have h9 := ref04_Same_self (headT w n.toNat t) (by omega)
        have hpz := part_szs t hf n.toNat
        have hpl := partT_len t hf n.toNat
        have h10 := csame_ev (partT n.toNat t) (by omega) (fun k hk => by have := hpz k hk; omega)
        rw [en] at h6 h7
        rw [hc] at h2
        rw [if_pos hc] at h3
        rw [hfl] at h5
        try simp (maxSteps := 1000000) (disch := first | omega | (simp only [List.length_cons, List.length_nil, List.length_append, List.length_map, List.length_take, List.length_drop]; omega)) only [go_sem, ↓reduceIte, Nat.reduceSub, Nat.reduceAdd, Nat.reduceMul, Nat.reduceLeDiff, Nat.reduceLT, Nat.reduceEqDiff, Nat.reduceBEq, Int.reduceLE, Int.reduceLT, Int.reduceEq, Int.reduceNeg, Int.reduceAdd, Int.reduceSub, Int.reduceMul, Int.reduceToNat] at h7
        try simp (maxSteps := 1000000) (disch := first | omega | (simp only [List.length_cons, List.length_nil, List.length_append, List.length_map, List.length_take, List.length_drop]; omega)) only [go_sem, ↓reduceIte, Nat.reduceSub, Nat.reduceAdd, Nat.reduceMul, Nat.reduceLeDiff, Nat.reduceLT, Nat.reduceEqDiff, Nat.reduceBEq, Int.reduceLE, Int.reduceLT, Int.reduceEq, Int.reduceNeg, Int.reduceAdd, Int.reduceSub, Int.reduceMul, Int.reduceToNat] at h8
        generalize headT w n.toNat t = u at *
        generalize partT n.toNat t = m at *
        have n0 : ¬ n < 0 := by omega
        have n3 : ¬ 64 < n := by omega
        have w0 : ¬ w < 1 := by omega
        have w1 : ¬ 32 < w := by omega
        simp (maxSteps := 1000000) (disch := first | omega | (simp only [List.length_cons, List.length_nil, List.length_append, List.length_map, List.length_take, List.length_drop]; omega)) only [go_sem, ↓reduceIte, Nat.reduceSub, Nat.reduceAdd, Nat.reduceMul, Nat.reduceLeDiff, Nat.reduceLT, Nat.reduceEqDiff, Nat.reduceBEq, Int.reduceLE, Int.reduceLT, Int.reduceEq, Int.reduceNeg, Int.reduceAdd, Int.reduceSub, Int.reduceMul, Int.reduceToNat, i_law11_ChunkCuts, h0, h1, h2, h3, h4, h5, h6, h7, h8, h9, h10, hm, hdl, n0, n3, w0, w1]
    · have h6 := chunk_Cut_bad w t n hw hn hs hz
      have e0 : avT T.no = .agg [i64 0, .sl true [], .sl true [], .sl true [], .sl true []] := rfl
      have h9 := ref04_Same_self .no (by decide)
      have h10 := law00_Code_ev (cutC w t n) (by have := chk_cases t; unfold cutC; (repeat' split) <;> omega)
      rw [errV, if_neg hz] at h10
      rw [e0] at h6 h9
      unfold cutC at h6 h10 hz
      by_cases hc : t.chk = 0
      · rw [hc] at h2
        rw [if_pos hc] at h3
        by_cases n0 : n < 0
        · rw [if_pos (.inl n0)] at h6 h10
          simp (maxSteps := 1000000) (disch := first | omega | (simp only [List.length_cons, List.length_nil, List.length_append, List.length_map, List.length_take, List.length_drop]; omega)) only [go_sem, ↓reduceIte, Nat.reduceSub, Nat.reduceAdd, Nat.reduceMul, Nat.reduceLeDiff, Nat.reduceLT, Nat.reduceEqDiff, Nat.reduceBEq, Int.reduceLE, Int.reduceLT, Int.reduceEq, Int.reduceNeg, Int.reduceAdd, Int.reduceSub, Int.reduceMul, Int.reduceToNat, i_law11_ChunkCuts, h0, h1, h2, h3, h4, h6, h9, h10, hm, hdl]
        · by_cases n1 : 64 < n
          · rw [if_pos (.inr (.inl n1))] at h6 h10
            simp (maxSteps := 1000000) (disch := first | omega | (simp only [List.length_cons, List.length_nil, List.length_append, List.length_map, List.length_take, List.length_drop]; omega)) only [go_sem, ↓reduceIte, Nat.reduceSub, Nat.reduceAdd, Nat.reduceMul, Nat.reduceLeDiff, Nat.reduceLT, Nat.reduceEqDiff, Nat.reduceBEq, Int.reduceLE, Int.reduceLT, Int.reduceEq, Int.reduceNeg, Int.reduceAdd, Int.reduceSub, Int.reduceMul, Int.reduceToNat, i_law11_ChunkCuts, h0, h1, h2, h3, h4, h6, h9, h10, hm, hdl]
          · by_cases hg : 1 ≤ w ∧ w ≤ 32
            · rw [if_neg (by omega), if_neg (fun x => x hc)] at h6 h10 hz
              have hf := chk_formed hc
              have h8 := rdig_ev w hg t hf hs
              have hy : (t.dig w).isSome = false ∨ t.full = false := by
                by_cases h : (t.dig w).isSome = false ∨ t.full = false
                · exact h
                · rw [if_neg h] at hz; exact absurd rfl hz
              rw [if_pos hy] at h6 h10
              have w0 : ¬ w < 1 := by omega
              have w1 : ¬ 32 < w := by omega
              generalize rgV w t = z at *
              cases hds : (t.dig w).isSome
              · rw [hds] at h8
                try simp (maxSteps := 1000000) (disch := first | omega | (simp only [List.length_cons, List.length_nil, List.length_append, List.length_map, List.length_take, List.length_drop]; omega)) only [go_sem, ↓reduceIte, Nat.reduceSub, Nat.reduceAdd, Nat.reduceMul, Nat.reduceLeDiff, Nat.reduceLT, Nat.reduceEqDiff, Nat.reduceBEq, Int.reduceLE, Int.reduceLT, Int.reduceEq, Int.reduceNeg, Int.reduceAdd, Int.reduceSub, Int.reduceMul, Int.reduceToNat] at h8
                cases hfl : t.full
                · rw [hfl] at h5
                  simp (maxSteps := 1000000) (disch := first | omega | (simp only [List.length_cons, List.length_nil, List.length_append, List.length_map, List.length_take, List.length_drop]; omega)) only [go_sem, ↓reduceIte, Nat.reduceSub, Nat.reduceAdd, Nat.reduceMul, Nat.reduceLeDiff, Nat.reduceLT, Nat.reduceEqDiff, Nat.reduceBEq, Int.reduceLE, Int.reduceLT, Int.reduceEq, Int.reduceNeg, Int.reduceAdd, Int.reduceSub, Int.reduceMul, Int.reduceToNat, i_law11_ChunkCuts, h0, h1, h2, h3, h4, h5, h6, h8, h9, h10, hm, hdl, n0, n1, w0, w1]
                · rw [hfl] at h5
                  simp (maxSteps := 1000000) (disch := first | omega | (simp only [List.length_cons, List.length_nil, List.length_append, List.length_map, List.length_take, List.length_drop]; omega)) only [go_sem, ↓reduceIte, Nat.reduceSub, Nat.reduceAdd, Nat.reduceMul, Nat.reduceLeDiff, Nat.reduceLT, Nat.reduceEqDiff, Nat.reduceBEq, Int.reduceLE, Int.reduceLT, Int.reduceEq, Int.reduceNeg, Int.reduceAdd, Int.reduceSub, Int.reduceMul, Int.reduceToNat, i_law11_ChunkCuts, h0, h1, h2, h3, h4, h5, h6, h8, h9, h10, hm, hdl, n0, n1, w0, w1]
              · rw [hds] at h8
                try simp (maxSteps := 1000000) (disch := first | omega | (simp only [List.length_cons, List.length_nil, List.length_append, List.length_map, List.length_take, List.length_drop]; omega)) only [go_sem, ↓reduceIte, Nat.reduceSub, Nat.reduceAdd, Nat.reduceMul, Nat.reduceLeDiff, Nat.reduceLT, Nat.reduceEqDiff, Nat.reduceBEq, Int.reduceLE, Int.reduceLT, Int.reduceEq, Int.reduceNeg, Int.reduceAdd, Int.reduceSub, Int.reduceMul, Int.reduceToNat] at h8
                rcases hy with hy | hy
                · rw [hds] at hy; cases hy
                · rw [hy] at h5
                  simp (maxSteps := 1000000) (disch := first | omega | (simp only [List.length_cons, List.length_nil, List.length_append, List.length_map, List.length_take, List.length_drop]; omega)) only [go_sem, ↓reduceIte, Nat.reduceSub, Nat.reduceAdd, Nat.reduceMul, Nat.reduceLeDiff, Nat.reduceLT, Nat.reduceEqDiff, Nat.reduceBEq, Int.reduceLE, Int.reduceLT, Int.reduceEq, Int.reduceNeg, Int.reduceAdd, Int.reduceSub, Int.reduceMul, Int.reduceToNat, i_law11_ChunkCuts, h0, h1, h2, h3, h4, h5, h6, h8, h9, h10, hm, hdl, n0, n1, w0, w1]
            · rw [if_pos (by omega)] at h6 h10
              by_cases w0 : w < 1
              · simp (maxSteps := 1000000) (disch := first | omega | (simp only [List.length_cons, List.length_nil, List.length_append, List.length_map, List.length_take, List.length_drop]; omega)) only [go_sem, ↓reduceIte, Nat.reduceSub, Nat.reduceAdd, Nat.reduceMul, Nat.reduceLeDiff, Nat.reduceLT, Nat.reduceEqDiff, Nat.reduceBEq, Int.reduceLE, Int.reduceLT, Int.reduceEq, Int.reduceNeg, Int.reduceAdd, Int.reduceSub, Int.reduceMul, Int.reduceToNat, i_law11_ChunkCuts, h0, h1, h2, h3, h4, h6, h9, h10, hm, hdl, n0, n1]
              · have w1 : 32 < w := by omega
                simp (maxSteps := 1000000) (disch := first | omega | (simp only [List.length_cons, List.length_nil, List.length_append, List.length_map, List.length_take, List.length_drop]; omega)) only [go_sem, ↓reduceIte, Nat.reduceSub, Nat.reduceAdd, Nat.reduceMul, Nat.reduceLeDiff, Nat.reduceLT, Nat.reduceEqDiff, Nat.reduceBEq, Int.reduceLE, Int.reduceLT, Int.reduceEq, Int.reduceNeg, Int.reduceAdd, Int.reduceSub, Int.reduceMul, Int.reduceToNat, i_law11_ChunkCuts, h0, h1, h2, h3, h4, h6, h9, h10, hm, hdl, n0, n1, w0]
      · rw [if_neg hc] at h3
        by_cases n0 : n < 0
        · rw [if_pos (.inl n0)] at h6 h10
          generalize t.chk = c at *
          simp (maxSteps := 1000000) (disch := first | omega | (simp only [List.length_cons, List.length_nil, List.length_append, List.length_map, List.length_take, List.length_drop]; omega)) only [go_sem, ↓reduceIte, Nat.reduceSub, Nat.reduceAdd, Nat.reduceMul, Nat.reduceLeDiff, Nat.reduceLT, Nat.reduceEqDiff, Nat.reduceBEq, Int.reduceLE, Int.reduceLT, Int.reduceEq, Int.reduceNeg, Int.reduceAdd, Int.reduceSub, Int.reduceMul, Int.reduceToNat, i_law11_ChunkCuts, h0, h1, h2, h3, h6, h9, h10, hm, hc]
        · by_cases n1 : 64 < n
          · rw [if_pos (.inr (.inl n1))] at h6 h10
            generalize t.chk = c at *
            simp (maxSteps := 1000000) (disch := first | omega | (simp only [List.length_cons, List.length_nil, List.length_append, List.length_map, List.length_take, List.length_drop]; omega)) only [go_sem, ↓reduceIte, Nat.reduceSub, Nat.reduceAdd, Nat.reduceMul, Nat.reduceLeDiff, Nat.reduceLT, Nat.reduceEqDiff, Nat.reduceBEq, Int.reduceLE, Int.reduceLT, Int.reduceEq, Int.reduceNeg, Int.reduceAdd, Int.reduceSub, Int.reduceMul, Int.reduceToNat, i_law11_ChunkCuts, h0, h1, h2, h3, h6, h9, h10, hm, hc]
          · by_cases hg : 1 ≤ w ∧ w ≤ 32
            · rw [if_neg (by omega), if_pos hc] at h6 h10
              have w0 : ¬ w < 1 := by omega
              have w1 : ¬ 32 < w := by omega
              generalize t.chk = c at *
              simp (maxSteps := 1000000) (disch := first | omega | (simp only [List.length_cons, List.length_nil, List.length_append, List.length_map, List.length_take, List.length_drop]; omega)) only [go_sem, ↓reduceIte, Nat.reduceSub, Nat.reduceAdd, Nat.reduceMul, Nat.reduceLeDiff, Nat.reduceLT, Nat.reduceEqDiff, Nat.reduceBEq, Int.reduceLE, Int.reduceLT, Int.reduceEq, Int.reduceNeg, Int.reduceAdd, Int.reduceSub, Int.reduceMul, Int.reduceToNat, i_law11_ChunkCuts, h0, h1, h2, h3, h6, h9, h10, hm, hc, n0, n1, w0, w1]
            · rw [if_pos (by omega)] at h6 h10
              generalize t.chk = c at *
              by_cases w0 : w < 1
              · simp (maxSteps := 1000000) (disch := first | omega | (simp only [List.length_cons, List.length_nil, List.length_append, List.length_map, List.length_take, List.length_drop]; omega)) only [go_sem, ↓reduceIte, Nat.reduceSub, Nat.reduceAdd, Nat.reduceMul, Nat.reduceLeDiff, Nat.reduceLT, Nat.reduceEqDiff, Nat.reduceBEq, Int.reduceLE, Int.reduceLT, Int.reduceEq, Int.reduceNeg, Int.reduceAdd, Int.reduceSub, Int.reduceMul, Int.reduceToNat, i_law11_ChunkCuts, h0, h1, h2, h3, h6, h9, h10, hm, hc, n0, n1]
              · have w1 : 32 < w := by omega
                simp (maxSteps := 1000000) (disch := first | omega | (simp only [List.length_cons, List.length_nil, List.length_append, List.length_map, List.length_take, List.length_drop]; omega)) only [go_sem, ↓reduceIte, Nat.reduceSub, Nat.reduceAdd, Nat.reduceMul, Nat.reduceLeDiff, Nat.reduceLT, Nat.reduceEqDiff, Nat.reduceBEq, Int.reduceLE, Int.reduceLT, Int.reduceEq, Int.reduceNeg, Int.reduceAdd, Int.reduceSub, Int.reduceMul, Int.reduceToNat, i_law11_ChunkCuts, h0, h1, h2, h3, h6, h9, h10, hm, hc, n0, n1, w0]

end Go.Proofs.YtebiajdkgpcidaaDoor
