/-
  The nodes of any tree: the law.
-/
import Derived.Test.YtebiajdkgpcidaaDoorLSmall4
set_option linter.unusedSimpArgs false
set_option linter.unusedVariables false
set_option maxRecDepth 200000
set_option maxHeartbeats 4000000
namespace Go.Proofs.YtebiajdkgpcidaaDoor
open Go.Ev

theorem list_szs : ∀ t : T, t.formed = true → ∀ k ∈ t.list, k.size ≤ t.size := F_ind (fun t _ h k hk => by rw [list_nil h] at hk; simp at hk) fun t l r _ h _ _ h1 h2 k hk => by
  have := size_two h
  rw [list_two h] at hk
  rcases List.mem_append.1 hk with hk | hk
  · have := h1 k hk; omega
  · rcases List.mem_cons.1 hk with hk | hk
    · subst hk; exact Nat.le_refl _
    · have := h2 k hk; omega
theorem lists_loop (l : List T) (hl : l.length ≤ 1048576) (hk : ∀ k ∈ l, Ev tab G0 n_ref04_Same [avT k, avT k] [] = some ([bo true], [])) : ∀ (n i : Nat), n + i = l.length → L_law04_TreeLists_0 (s_law04_TreeLists_K0 (bo true) (.sl true (eT l)) (.sl true (eT l)) (i64 i) [none]) = some (.exit 0, s_law04_TreeLists_J0 (bo true) [none])
  | 0, i, h => by
    rw [L_law04_TreeLists_0_eq]
    simp (maxSteps := 1000000) (disch := first | omega | (simp only [List.length_cons, List.length_nil, List.length_append, List.length_map, List.length_take, List.length_drop]; omega)) only [go_sem, ↓reduceIte, Nat.reduceSub, Nat.reduceAdd, Nat.reduceMul, Nat.reduceLeDiff, Nat.reduceLT, Nat.reduceEqDiff, Nat.reduceBEq, Int.reduceLE, Int.reduceLT, Int.reduceEq, Int.reduceNeg, Int.reduceAdd, Int.reduceSub, Int.reduceMul, Int.reduceToNat, i_law04_TreeLists_b0]
  | n + 1, i, h => by
    have ih := lists_loop l hl hk n (i + 1) (by omega)
    have h1 := hk _ (getD_mem' (d := .no) (i := i) (by omega))
    rw [L_law04_TreeLists_0_eq]
    generalize hd : l.getD i .no = k at *
    try simp (maxSteps := 1000000) (disch := first | omega | (simp only [List.length_cons, List.length_nil, List.length_append, List.length_map, List.length_take, List.length_drop]; omega)) only [go_sem, ↓reduceIte, Nat.reduceSub, Nat.reduceAdd, Nat.reduceMul, Nat.reduceLeDiff, Nat.reduceLT, Nat.reduceEqDiff, Nat.reduceBEq, Int.reduceLE, Int.reduceLT, Int.reduceEq, Int.reduceNeg, Int.reduceAdd, Int.reduceSub, Int.reduceMul, Int.reduceToNat] at ih
    simp (maxSteps := 1000000) (disch := first | omega | (simp only [List.length_cons, List.length_nil, List.length_append, List.length_map, List.length_take, List.length_drop]; omega)) only [go_sem, ↓reduceIte, Nat.reduceSub, Nat.reduceAdd, Nat.reduceMul, Nat.reduceLeDiff, Nat.reduceLT, Nat.reduceEqDiff, Nat.reduceBEq, Int.reduceLE, Int.reduceLT, Int.reduceEq, Int.reduceNeg, Int.reduceAdd, Int.reduceSub, Int.reduceMul, Int.reduceToNat, i_law04_TreeLists_b0, hd, h1, ih]
theorem law_TreeLists (t : T) (hs : t.size ≤ 1048576) : ∃ outs, Ev tab G0 n_law04_TreeLists [avT t] [] = some ([bo true], outs) := by
  have h0 := up04_ev
  have h1 := small04_ev t hs
  have h2 := ref04_Check_ev t hs
  refine ⟨[], Ev_run t_law04_TreeLists rfl rfl ?_⟩
  cases hl : decide (0 ≤ t.light 500 200)
  · rw [hl] at h1
    simp (maxSteps := 1000000) (disch := first | omega | (simp only [List.length_cons, List.length_nil, List.length_append, List.length_map, List.length_take, List.length_drop]; omega)) only [go_sem, ↓reduceIte, Nat.reduceSub, Nat.reduceAdd, Nat.reduceMul, Nat.reduceLeDiff, Nat.reduceLT, Nat.reduceEqDiff, Nat.reduceBEq, Int.reduceLE, Int.reduceLT, Int.reduceEq, Int.reduceNeg, Int.reduceAdd, Int.reduceSub, Int.reduceMul, Int.reduceToNat, i_law04_TreeLists, h0, h1]
  · rw [hl] at h1
    by_cases hc : t.chk = 0
    · have hf := chk_formed hc
      have h3 := tree_List_ev t hs hc
      have h4 := ref04_List_ev t hf hs
      have hsz := list_szs t hf
      have hlen := list_size t hf
      rw [hc] at h2
      have h5 := lists_loop t.list (by omega) (fun k hk => ref04_Same_self k (by have := hsz k hk; omega)) t.list.length 0 (by omega)
      generalize t.list = l at *
      have e0 : ((0 : Nat) : Int) = 0 := rfl
      rw [e0] at h5
      simp (maxSteps := 1000000) (disch := first | omega | (simp only [List.length_cons, List.length_nil, List.length_append, List.length_map, List.length_take, List.length_drop]; omega)) only [go_sem, ↓reduceIte, Nat.reduceSub, Nat.reduceAdd, Nat.reduceMul, Nat.reduceLeDiff, Nat.reduceLT, Nat.reduceEqDiff, Nat.reduceBEq, Int.reduceLE, Int.reduceLT, Int.reduceEq, Int.reduceNeg, Int.reduceAdd, Int.reduceSub, Int.reduceMul, Int.reduceToNat, i_law04_TreeLists, h0, h1, h2, h3, h4, h5]
    · have h3 := tree_List_bad t hs hc
      generalize t.chk = c at *
      simp (maxSteps := 1000000) (disch := first | omega | (simp only [List.length_cons, List.length_nil, List.length_append, List.length_map, List.length_take, List.length_drop]; omega)) only [go_sem, ↓reduceIte, Nat.reduceSub, Nat.reduceAdd, Nat.reduceMul, Nat.reduceLeDiff, Nat.reduceLT, Nat.reduceEqDiff, Nat.reduceBEq, Int.reduceLE, Int.reduceLT, Int.reduceEq, Int.reduceNeg, Int.reduceAdd, Int.reduceSub, Int.reduceMul, Int.reduceToNat, i_law04_TreeLists, h0, h1, h2, h3, hc]

end Go.Proofs.YtebiajdkgpcidaaDoor
