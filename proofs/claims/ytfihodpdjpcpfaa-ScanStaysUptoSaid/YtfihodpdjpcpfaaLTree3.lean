/-
  Trees: what the program tells of their form.
-/
import Derived.Test.YtfihodpdjpcpfaaLTree2
set_option linter.unusedSimpArgs false
set_option linter.unusedVariables false
set_option maxRecDepth 200000
set_option maxHeartbeats 4000000
namespace Go.Proofs.Ytfihodpdjpcpfaa
open Go.Ev

theorem deepL_any (l : List T) (b : Int) : deepL l b = l.any fun k => k.deep b := by
  induction l with
  | nil => rfl
  | cons t l ih => simp only [deepL, List.any_cons, ih]
theorem formedL_any (l : List T) : formedL l = !(l.any fun k => !k.formed) := by
  induction l with
  | nil => rfl
  | cons t l ih => simp only [formedL, List.any_cons, ih, Bool.not_or, Bool.not_not]
theorem fullL_any (l : List T) : fullL l = !(l.any fun k => !k.full) := by
  induction l with
  | nil => rfl
  | cons t l ih => simp only [fullL, List.any_cons, ih, Bool.not_or, Bool.not_not]
/-! ### slices.ContainsFunc -/
theorem idxA (f : Nat) (hf : (f < 1000000) = True) (hc : ∀ l, cArgs tab f l = canonA [] l) (p : T → Bool) (l : List T) (hl : l.length ≤ 1048576) (hk : ∀ k ∈ l, Ev tab G0 f [avT k] [] = some ([bo (p k)], [])) : ∀ (n i : Nat), n + i = l.length →
    ((l.drop i).any p = false → L_slices_IndexFunc_sl_api_Tree_api_Tree_0 (s_slices_IndexFunc_sl_api_Tree_api_Tree_K0 (.sl true (eT l)) (.clos f []) (i64 l.length) (i64 i) []) = some (.exit 0, s_slices_IndexFunc_sl_api_Tree_api_Tree_J0 [])) ∧
    ((l.drop i).any p = true → ∃ j : Nat, L_slices_IndexFunc_sl_api_Tree_api_Tree_0 (s_slices_IndexFunc_sl_api_Tree_api_Tree_K0 (.sl true (eT l)) (.clos f []) (i64 l.length) (i64 i) []) = some (.ret, s_slices_IndexFunc_sl_api_Tree_api_Tree_R (i64 j) []))
  | 0, i, h => by
    rw [List.drop_of_length_le (by omega)]
    refine ⟨fun _ => ?_, fun h => by simp at h⟩
    rw [L_slices_IndexFunc_sl_api_Tree_api_Tree_0_eq]
    simp (maxSteps := 1000000) (disch := first | omega | (simp only [List.length_cons, List.length_nil, List.length_append, List.length_map, List.length_take, List.length_drop]; omega)) only [go_sem, ↓reduceIte, Nat.reduceSub, Nat.reduceAdd, Nat.reduceMul, Nat.reduceLeDiff, Nat.reduceLT, Nat.reduceEqDiff, Nat.reduceBEq, Int.reduceLE, Int.reduceLT, Int.reduceEq, Int.reduceNeg, Int.reduceAdd, Int.reduceSub, Int.reduceMul, Int.reduceToNat, i_slices_IndexFunc_sl_api_Tree_api_Tree_b0]
  | n + 1, i, h => by
    obtain ⟨ih1, ih2⟩ := idxA f hf hc p l hl hk n (i + 1) (by omega)
    have h1 := hk _ (getD_mem' (d := .no) (i := i) (by omega))
    rw [drop_step (d := .no) (by omega), List.any_cons]
    generalize hd : l.getD i .no = k at *
    cases hp : p k
    · rw [hp] at h1
      simp only [Bool.false_or]
      refine ⟨fun hn => ?_, fun hn => ?_⟩
      · have ih := ih1 hn
        try simp (maxSteps := 1000000) (disch := first | omega | (simp only [List.length_cons, List.length_nil, List.length_append, List.length_map, List.length_take, List.length_drop]; omega)) only [go_sem, ↓reduceIte, Nat.reduceSub, Nat.reduceAdd, Nat.reduceMul, Nat.reduceLeDiff, Nat.reduceLT, Nat.reduceEqDiff, Nat.reduceBEq, Int.reduceLE, Int.reduceLT, Int.reduceEq, Int.reduceNeg, Int.reduceAdd, Int.reduceSub, Int.reduceMul, Int.reduceToNat] at ih
        rw [L_slices_IndexFunc_sl_api_Tree_api_Tree_0_eq]
        simp (maxSteps := 1000000) (disch := first | omega | (simp only [List.length_cons, List.length_nil, List.length_append, List.length_map, List.length_take, List.length_drop]; omega)) only [go_sem, ↓reduceIte, Nat.reduceSub, Nat.reduceAdd, Nat.reduceMul, Nat.reduceLeDiff, Nat.reduceLT, Nat.reduceEqDiff, Nat.reduceBEq, Int.reduceLE, Int.reduceLT, Int.reduceEq, Int.reduceNeg, Int.reduceAdd, Int.reduceSub, Int.reduceMul, Int.reduceToNat, i_slices_IndexFunc_sl_api_Tree_api_Tree_b0, hf, hc, hd, h1, ih]
      · obtain ⟨j, ih⟩ := ih2 hn
        refine ⟨j, ?_⟩
        try simp (maxSteps := 1000000) (disch := first | omega | (simp only [List.length_cons, List.length_nil, List.length_append, List.length_map, List.length_take, List.length_drop]; omega)) only [go_sem, ↓reduceIte, Nat.reduceSub, Nat.reduceAdd, Nat.reduceMul, Nat.reduceLeDiff, Nat.reduceLT, Nat.reduceEqDiff, Nat.reduceBEq, Int.reduceLE, Int.reduceLT, Int.reduceEq, Int.reduceNeg, Int.reduceAdd, Int.reduceSub, Int.reduceMul, Int.reduceToNat] at ih
        rw [L_slices_IndexFunc_sl_api_Tree_api_Tree_0_eq]
        simp (maxSteps := 1000000) (disch := first | omega | (simp only [List.length_cons, List.length_nil, List.length_append, List.length_map, List.length_take, List.length_drop]; omega)) only [go_sem, ↓reduceIte, Nat.reduceSub, Nat.reduceAdd, Nat.reduceMul, Nat.reduceLeDiff, Nat.reduceLT, Nat.reduceEqDiff, Nat.reduceBEq, Int.reduceLE, Int.reduceLT, Int.reduceEq, Int.reduceNeg, Int.reduceAdd, Int.reduceSub, Int.reduceMul, Int.reduceToNat, i_slices_IndexFunc_sl_api_Tree_api_Tree_b0, hf, hc, hd, h1, ih]
    · rw [hp] at h1
      simp only [Bool.true_or]
      refine ⟨fun hn => by simp at hn, fun _ => ⟨i, ?_⟩⟩
      rw [L_slices_IndexFunc_sl_api_Tree_api_Tree_0_eq]
      simp (maxSteps := 1000000) (disch := first | omega | (simp only [List.length_cons, List.length_nil, List.length_append, List.length_map, List.length_take, List.length_drop]; omega)) only [go_sem, ↓reduceIte, Nat.reduceSub, Nat.reduceAdd, Nat.reduceMul, Nat.reduceLeDiff, Nat.reduceLT, Nat.reduceEqDiff, Nat.reduceBEq, Int.reduceLE, Int.reduceLT, Int.reduceEq, Int.reduceNeg, Int.reduceAdd, Int.reduceSub, Int.reduceMul, Int.reduceToNat, i_slices_IndexFunc_sl_api_Tree_api_Tree_b0, hf, hc, hd, h1]
theorem ContainsA (f : Nat) (hf : (f < 1000000) = True) (hc : ∀ l, cArgs tab f l = canonA [] l) (p : T → Bool) (l : List T) (hl : l.length ≤ 1048576) (hk : ∀ k ∈ l, Ev tab G0 f [avT k] [] = some ([bo (p k)], [])) : Ev tab G0 n_slices_ContainsFunc_sl_api_Tree_api_Tree [.sl true (eT l), .clos f []] [] = some ([bo (l.any p)], []) := by
  obtain ⟨h1, h2⟩ := idxA f hf hc p l hl hk l.length 0 (by omega)
  have e0 : ((0 : Nat) : Int) = 0 := rfl
  rw [List.drop_zero] at h1 h2
  cases hp : l.any p
  · have h := h1 hp
    rw [e0] at h
    have hi : Ev tab G0 n_slices_IndexFunc_sl_api_Tree_api_Tree [.sl true (eT l), .clos f []] [] = some ([i64 (-1)], []) := by
      refine Ev_run t_slices_IndexFunc_sl_api_Tree_api_Tree rfl rfl ?_
      simp (maxSteps := 1000000) (disch := first | omega | (simp only [List.length_cons, List.length_nil, List.length_append, List.length_map, List.length_take, List.length_drop]; omega)) only [go_sem, ↓reduceIte, Nat.reduceSub, Nat.reduceAdd, Nat.reduceMul, Nat.reduceLeDiff, Nat.reduceLT, Nat.reduceEqDiff, Nat.reduceBEq, Int.reduceLE, Int.reduceLT, Int.reduceEq, Int.reduceNeg, Int.reduceAdd, Int.reduceSub, Int.reduceMul, Int.reduceToNat, i_slices_IndexFunc_sl_api_Tree_api_Tree, h]
    refine Ev_run t_slices_ContainsFunc_sl_api_Tree_api_Tree rfl rfl ?_
    simp (maxSteps := 1000000) (disch := first | omega | (simp only [List.length_cons, List.length_nil, List.length_append, List.length_map, List.length_take, List.length_drop]; omega)) only [go_sem, ↓reduceIte, Nat.reduceSub, Nat.reduceAdd, Nat.reduceMul, Nat.reduceLeDiff, Nat.reduceLT, Nat.reduceEqDiff, Nat.reduceBEq, Int.reduceLE, Int.reduceLT, Int.reduceEq, Int.reduceNeg, Int.reduceAdd, Int.reduceSub, Int.reduceMul, Int.reduceToNat, i_slices_ContainsFunc_sl_api_Tree_api_Tree, hi]
  · obtain ⟨j, h⟩ := h2 hp
    rw [e0] at h
    have hi : Ev tab G0 n_slices_IndexFunc_sl_api_Tree_api_Tree [.sl true (eT l), .clos f []] [] = some ([i64 j], []) := by
      refine Ev_run t_slices_IndexFunc_sl_api_Tree_api_Tree rfl rfl ?_
      simp (maxSteps := 1000000) (disch := first | omega | (simp only [List.length_cons, List.length_nil, List.length_append, List.length_map, List.length_take, List.length_drop]; omega)) only [go_sem, ↓reduceIte, Nat.reduceSub, Nat.reduceAdd, Nat.reduceMul, Nat.reduceLeDiff, Nat.reduceLT, Nat.reduceEqDiff, Nat.reduceBEq, Int.reduceLE, Int.reduceLT, Int.reduceEq, Int.reduceNeg, Int.reduceAdd, Int.reduceSub, Int.reduceMul, Int.reduceToNat, i_slices_IndexFunc_sl_api_Tree_api_Tree, h]
    refine Ev_run t_slices_ContainsFunc_sl_api_Tree_api_Tree rfl rfl ?_
    simp (maxSteps := 1000000) (disch := first | omega | (simp only [List.length_cons, List.length_nil, List.length_append, List.length_map, List.length_take, List.length_drop]; omega)) only [go_sem, ↓reduceIte, Nat.reduceSub, Nat.reduceAdd, Nat.reduceMul, Nat.reduceLeDiff, Nat.reduceLT, Nat.reduceEqDiff, Nat.reduceBEq, Int.reduceLE, Int.reduceLT, Int.reduceEq, Int.reduceNeg, Int.reduceAdd, Int.reduceSub, Int.reduceMul, Int.reduceToNat, i_slices_ContainsFunc_sl_api_Tree_api_Tree, hi]
theorem idxB (f : Nat) (hf : (f < 1000000) = True) (hc : ∀ l, cArgs tab f l = canonA [] l) (b : Int) (p : T → Bool) (l : List T) (hl : l.length ≤ 1048576) (hk : ∀ k ∈ l, Ev tab G0 f [avT k, .ptr 0 0] [.var [i64 b]] = some ([bo (p k)], [.var [i64 b]])) : ∀ (n i : Nat), n + i = l.length →
    ((l.drop i).any p = false → L_slices_IndexFunc_sl_api_Tree_api_Tree_0 (s_slices_IndexFunc_sl_api_Tree_api_Tree_K0 (.sl true (eT l)) (.clos f [.ptr 0 0]) (i64 l.length) (i64 i) [some (.var [i64 b])]) = some (.exit 0, s_slices_IndexFunc_sl_api_Tree_api_Tree_J0 [some (.var [i64 b])])) ∧
    ((l.drop i).any p = true → ∃ j : Nat, L_slices_IndexFunc_sl_api_Tree_api_Tree_0 (s_slices_IndexFunc_sl_api_Tree_api_Tree_K0 (.sl true (eT l)) (.clos f [.ptr 0 0]) (i64 l.length) (i64 i) [some (.var [i64 b])]) = some (.ret, s_slices_IndexFunc_sl_api_Tree_api_Tree_R (i64 j) [some (.var [i64 b])]))
  | 0, i, h => by
    rw [List.drop_of_length_le (by omega)]
    refine ⟨fun _ => ?_, fun h => by simp at h⟩
    rw [L_slices_IndexFunc_sl_api_Tree_api_Tree_0_eq]
    simp (maxSteps := 1000000) (disch := first | omega | (simp only [List.length_cons, List.length_nil, List.length_append, List.length_map, List.length_take, List.length_drop]; omega)) only [go_sem, ↓reduceIte, Nat.reduceSub, Nat.reduceAdd, Nat.reduceMul, Nat.reduceLeDiff, Nat.reduceLT, Nat.reduceEqDiff, Nat.reduceBEq, Int.reduceLE, Int.reduceLT, Int.reduceEq, Int.reduceNeg, Int.reduceAdd, Int.reduceSub, Int.reduceMul, Int.reduceToNat, i_slices_IndexFunc_sl_api_Tree_api_Tree_b0]
  | n + 1, i, h => by
    obtain ⟨ih1, ih2⟩ := idxB f hf hc b p l hl hk n (i + 1) (by omega)
    have h1 := hk _ (getD_mem' (d := .no) (i := i) (by omega))
    rw [drop_step (d := .no) (by omega), List.any_cons]
    generalize hd : l.getD i .no = k at *
    cases hp : p k
    · rw [hp] at h1
      simp only [Bool.false_or]
      refine ⟨fun hn => ?_, fun hn => ?_⟩
      · have ih := ih1 hn
        try simp (maxSteps := 1000000) (disch := first | omega | (simp only [List.length_cons, List.length_nil, List.length_append, List.length_map, List.length_take, List.length_drop]; omega)) only [go_sem, ↓reduceIte, Nat.reduceSub, Nat.reduceAdd, Nat.reduceMul, Nat.reduceLeDiff, Nat.reduceLT, Nat.reduceEqDiff, Nat.reduceBEq, Int.reduceLE, Int.reduceLT, Int.reduceEq, Int.reduceNeg, Int.reduceAdd, Int.reduceSub, Int.reduceMul, Int.reduceToNat] at ih
        rw [L_slices_IndexFunc_sl_api_Tree_api_Tree_0_eq]
        simp (maxSteps := 1000000) (disch := first | omega | (simp only [List.length_cons, List.length_nil, List.length_append, List.length_map, List.length_take, List.length_drop]; omega)) only [go_sem, ↓reduceIte, Nat.reduceSub, Nat.reduceAdd, Nat.reduceMul, Nat.reduceLeDiff, Nat.reduceLT, Nat.reduceEqDiff, Nat.reduceBEq, Int.reduceLE, Int.reduceLT, Int.reduceEq, Int.reduceNeg, Int.reduceAdd, Int.reduceSub, Int.reduceMul, Int.reduceToNat, i_slices_IndexFunc_sl_api_Tree_api_Tree_b0, hf, hc, hd, h1, ih]
      · obtain ⟨j, ih⟩ := ih2 hn
        refine ⟨j, ?_⟩
        try simp (maxSteps := 1000000) (disch := first | omega | (simp only [List.length_cons, List.length_nil, List.length_append, List.length_map, List.length_take, List.length_drop]; omega)) only [go_sem, ↓reduceIte, Nat.reduceSub, Nat.reduceAdd, Nat.reduceMul, Nat.reduceLeDiff, Nat.reduceLT, Nat.reduceEqDiff, Nat.reduceBEq, Int.reduceLE, Int.reduceLT, Int.reduceEq, Int.reduceNeg, Int.reduceAdd, Int.reduceSub, Int.reduceMul, Int.reduceToNat] at ih
        rw [L_slices_IndexFunc_sl_api_Tree_api_Tree_0_eq]
        simp (maxSteps := 1000000) (disch := first | omega | (simp only [List.length_cons, List.length_nil, List.length_append, List.length_map, List.length_take, List.length_drop]; omega)) only [go_sem, ↓reduceIte, Nat.reduceSub, Nat.reduceAdd, Nat.reduceMul, Nat.reduceLeDiff, Nat.reduceLT, Nat.reduceEqDiff, Nat.reduceBEq, Int.reduceLE, Int.reduceLT, Int.reduceEq, Int.reduceNeg, Int.reduceAdd, Int.reduceSub, Int.reduceMul, Int.reduceToNat, i_slices_IndexFunc_sl_api_Tree_api_Tree_b0, hf, hc, hd, h1, ih]
    · rw [hp] at h1
      simp only [Bool.true_or]
      refine ⟨fun hn => by simp at hn, fun _ => ⟨i, ?_⟩⟩
      rw [L_slices_IndexFunc_sl_api_Tree_api_Tree_0_eq]
      simp (maxSteps := 1000000) (disch := first | omega | (simp only [List.length_cons, List.length_nil, List.length_append, List.length_map, List.length_take, List.length_drop]; omega)) only [go_sem, ↓reduceIte, Nat.reduceSub, Nat.reduceAdd, Nat.reduceMul, Nat.reduceLeDiff, Nat.reduceLT, Nat.reduceEqDiff, Nat.reduceBEq, Int.reduceLE, Int.reduceLT, Int.reduceEq, Int.reduceNeg, Int.reduceAdd, Int.reduceSub, Int.reduceMul, Int.reduceToNat, i_slices_IndexFunc_sl_api_Tree_api_Tree_b0, hf, hc, hd, h1]
theorem ContainsB (f : Nat) (hf : (f < 1000000) = True) (hc : ∀ l, cArgs tab f l = canonA [] l) (b : Int) (p : T → Bool) (l : List T) (hl : l.length ≤ 1048576) (hk : ∀ k ∈ l, Ev tab G0 f [avT k, .ptr 0 0] [.var [i64 b]] = some ([bo (p k)], [.var [i64 b]])) : Ev tab G0 n_slices_ContainsFunc_sl_api_Tree_api_Tree [.sl true (eT l), .clos f [.ptr 0 0]] [.var [i64 b]] = some ([bo (l.any p)], [.var [i64 b]]) := by
  obtain ⟨h1, h2⟩ := idxB f hf hc b p l hl hk l.length 0 (by omega)
  have e0 : ((0 : Nat) : Int) = 0 := rfl
  rw [List.drop_zero] at h1 h2
  cases hp : l.any p
  · have h := h1 hp
    rw [e0] at h
    have hi : Ev tab G0 n_slices_IndexFunc_sl_api_Tree_api_Tree [.sl true (eT l), .clos f [.ptr 0 0]] [.var [i64 b]] = some ([i64 (-1)], [.var [i64 b]]) := by
      refine Ev_run t_slices_IndexFunc_sl_api_Tree_api_Tree rfl rfl ?_
      simp (maxSteps := 1000000) (disch := first | omega | (simp only [List.length_cons, List.length_nil, List.length_append, List.length_map, List.length_take, List.length_drop]; omega)) only [go_sem, ↓reduceIte, Nat.reduceSub, Nat.reduceAdd, Nat.reduceMul, Nat.reduceLeDiff, Nat.reduceLT, Nat.reduceEqDiff, Nat.reduceBEq, Int.reduceLE, Int.reduceLT, Int.reduceEq, Int.reduceNeg, Int.reduceAdd, Int.reduceSub, Int.reduceMul, Int.reduceToNat, i_slices_IndexFunc_sl_api_Tree_api_Tree, h]
    refine Ev_run t_slices_ContainsFunc_sl_api_Tree_api_Tree rfl rfl ?_
    simp (maxSteps := 1000000) (disch := first | omega | (simp only [List.length_cons, List.length_nil, List.length_append, List.length_map, List.length_take, List.length_drop]; omega)) only [go_sem, ↓reduceIte, Nat.reduceSub, Nat.reduceAdd, Nat.reduceMul, Nat.reduceLeDiff, Nat.reduceLT, Nat.reduceEqDiff, Nat.reduceBEq, Int.reduceLE, Int.reduceLT, Int.reduceEq, Int.reduceNeg, Int.reduceAdd, Int.reduceSub, Int.reduceMul, Int.reduceToNat, i_slices_ContainsFunc_sl_api_Tree_api_Tree, hi]
  · obtain ⟨j, h⟩ := h2 hp
    rw [e0] at h
    have hi : Ev tab G0 n_slices_IndexFunc_sl_api_Tree_api_Tree [.sl true (eT l), .clos f [.ptr 0 0]] [.var [i64 b]] = some ([i64 j], [.var [i64 b]]) := by
      refine Ev_run t_slices_IndexFunc_sl_api_Tree_api_Tree rfl rfl ?_
      simp (maxSteps := 1000000) (disch := first | omega | (simp only [List.length_cons, List.length_nil, List.length_append, List.length_map, List.length_take, List.length_drop]; omega)) only [go_sem, ↓reduceIte, Nat.reduceSub, Nat.reduceAdd, Nat.reduceMul, Nat.reduceLeDiff, Nat.reduceLT, Nat.reduceEqDiff, Nat.reduceBEq, Int.reduceLE, Int.reduceLT, Int.reduceEq, Int.reduceNeg, Int.reduceAdd, Int.reduceSub, Int.reduceMul, Int.reduceToNat, i_slices_IndexFunc_sl_api_Tree_api_Tree, h]
    refine Ev_run t_slices_ContainsFunc_sl_api_Tree_api_Tree rfl rfl ?_
    simp (maxSteps := 1000000) (disch := first | omega | (simp only [List.length_cons, List.length_nil, List.length_append, List.length_map, List.length_take, List.length_drop]; omega)) only [go_sem, ↓reduceIte, Nat.reduceSub, Nat.reduceAdd, Nat.reduceMul, Nat.reduceLeDiff, Nat.reduceLT, Nat.reduceEqDiff, Nat.reduceBEq, Int.reduceLE, Int.reduceLT, Int.reduceEq, Int.reduceNeg, Int.reduceAdd, Int.reduceSub, Int.reduceMul, Int.reduceToNat, i_slices_ContainsFunc_sl_api_Tree_api_Tree, hi]
/-! ### Too deep? -/
theorem tree_deep_ev : ∀ (t : T) (b : Int), 0 ≤ b ∧ b ≤ 1048576 → t.size ≤ 1048576 → Ev tab G0 n_tree_deep [avT t, i64 b] [] = some ([bo (t.deep b)], []) := T_ind fun t ih b hb hs => by
  have hl := kids_len t
  rw [deep_eq]
  by_cases hn : (t.kind = 1 ∨ t.kind = 2 ∨ 0 < t.kids.length) ∧ b = 0
  · rw [if_pos hn]
    obtain ⟨hn, rfl⟩ := hn
    refine Ev_run t_tree_deep rfl rfl ?_
    by_cases k1 : t.kind = 1
    · simp (maxSteps := 1000000) (disch := first | omega | (simp only [List.length_cons, List.length_nil, List.length_append, List.length_map, List.length_take, List.length_drop]; omega)) only [go_sem, ↓reduceIte, Nat.reduceSub, Nat.reduceAdd, Nat.reduceMul, Nat.reduceLeDiff, Nat.reduceLT, Nat.reduceEqDiff, Nat.reduceBEq, Int.reduceLE, Int.reduceLT, Int.reduceEq, Int.reduceNeg, Int.reduceAdd, Int.reduceSub, Int.reduceMul, Int.reduceToNat, i_tree_deep]
    · by_cases k2 : t.kind = 2
      · simp (maxSteps := 1000000) (disch := first | omega | (simp only [List.length_cons, List.length_nil, List.length_append, List.length_map, List.length_take, List.length_drop]; omega)) only [go_sem, ↓reduceIte, Nat.reduceSub, Nat.reduceAdd, Nat.reduceMul, Nat.reduceLeDiff, Nat.reduceLT, Nat.reduceEqDiff, Nat.reduceBEq, Int.reduceLE, Int.reduceLT, Int.reduceEq, Int.reduceNeg, Int.reduceAdd, Int.reduceSub, Int.reduceMul, Int.reduceToNat, i_tree_deep]
      · have k3 : 0 < t.kids.length := by omega
        simp (maxSteps := 1000000) (disch := first | omega | (simp only [List.length_cons, List.length_nil, List.length_append, List.length_map, List.length_take, List.length_drop]; omega)) only [go_sem, ↓reduceIte, Nat.reduceSub, Nat.reduceAdd, Nat.reduceMul, Nat.reduceLeDiff, Nat.reduceLT, Nat.reduceEqDiff, Nat.reduceBEq, Int.reduceLE, Int.reduceLT, Int.reduceEq, Int.reduceNeg, Int.reduceAdd, Int.reduceSub, Int.reduceMul, Int.reduceToNat, i_tree_deep]
  · rw [if_neg hn, deepL_any]
    have hk : ∀ k ∈ t.kids, Ev tab G0 n_tree_deep_1 [avT k, .ptr 0 0] [.var [i64 b]] = some ([bo (k.deep (b - 1))], [.var [i64 b]]) := fun k hk => by
      have := size_kid hk
      have hp := List.length_pos_of_mem hk
      have h1 := ih k hk (b - 1) (by omega) (by omega)
      refine Ev_run t_tree_deep_1 rfl rfl ?_
      simp (maxSteps := 1000000) (disch := first | omega | (simp only [List.length_cons, List.length_nil, List.length_append, List.length_map, List.length_take, List.length_drop]; omega)) only [go_sem, ↓reduceIte, Nat.reduceSub, Nat.reduceAdd, Nat.reduceMul, Nat.reduceLeDiff, Nat.reduceLT, Nat.reduceEqDiff, Nat.reduceBEq, Int.reduceLE, Int.reduceLT, Int.reduceEq, Int.reduceNeg, Int.reduceAdd, Int.reduceSub, Int.reduceMul, Int.reduceToNat, i_tree_deep_1, h1]
    have h1 := ContainsB n_tree_deep_1 lt_tree_deep_1 (fun _ => ca_tree_deep_1 _) b (fun k => k.deep (b - 1)) t.kids (by omega) hk
    generalize (t.kids.any fun k => k.deep (b - 1)) = x at *
    refine Ev_run t_tree_deep rfl rfl ?_
    by_cases k1 : t.kind = 1
    · have hb1 : ¬ b < 1 := by omega
      simp (maxSteps := 1000000) (disch := first | omega | (simp only [List.length_cons, List.length_nil, List.length_append, List.length_map, List.length_take, List.length_drop]; omega)) only [go_sem, ↓reduceIte, Nat.reduceSub, Nat.reduceAdd, Nat.reduceMul, Nat.reduceLeDiff, Nat.reduceLT, Nat.reduceEqDiff, Nat.reduceBEq, Int.reduceLE, Int.reduceLT, Int.reduceEq, Int.reduceNeg, Int.reduceAdd, Int.reduceSub, Int.reduceMul, Int.reduceToNat, i_tree_deep, h1]
    · by_cases k2 : t.kind = 2
      · have hb1 : ¬ b < 1 := by omega
        simp (maxSteps := 1000000) (disch := first | omega | (simp only [List.length_cons, List.length_nil, List.length_append, List.length_map, List.length_take, List.length_drop]; omega)) only [go_sem, ↓reduceIte, Nat.reduceSub, Nat.reduceAdd, Nat.reduceMul, Nat.reduceLeDiff, Nat.reduceLT, Nat.reduceEqDiff, Nat.reduceBEq, Int.reduceLE, Int.reduceLT, Int.reduceEq, Int.reduceNeg, Int.reduceAdd, Int.reduceSub, Int.reduceMul, Int.reduceToNat, i_tree_deep, h1]
      · by_cases k3 : 0 < t.kids.length
        · have hb1 : ¬ b < 1 := by omega
          simp (maxSteps := 1000000) (disch := first | omega | (simp only [List.length_cons, List.length_nil, List.length_append, List.length_map, List.length_take, List.length_drop]; omega)) only [go_sem, ↓reduceIte, Nat.reduceSub, Nat.reduceAdd, Nat.reduceMul, Nat.reduceLeDiff, Nat.reduceLT, Nat.reduceEqDiff, Nat.reduceBEq, Int.reduceLE, Int.reduceLT, Int.reduceEq, Int.reduceNeg, Int.reduceAdd, Int.reduceSub, Int.reduceMul, Int.reduceToNat, i_tree_deep, h1]
        · simp (maxSteps := 1000000) (disch := first | omega | (simp only [List.length_cons, List.length_nil, List.length_append, List.length_map, List.length_take, List.length_drop]; omega)) only [go_sem, ↓reduceIte, Nat.reduceSub, Nat.reduceAdd, Nat.reduceMul, Nat.reduceLeDiff, Nat.reduceLT, Nat.reduceEqDiff, Nat.reduceBEq, Int.reduceLE, Int.reduceLT, Int.reduceEq, Int.reduceNeg, Int.reduceAdd, Int.reduceSub, Int.reduceMul, Int.reduceToNat, i_tree_deep, h1]
/-! ### Formed? -/
theorem tree_formed_ev : ∀ (t : T), t.size ≤ 1048576 → Ev tab G0 n_tree_formed [avT t] [] = some ([bo t.formed], []) := T_ind fun t ih hs => by
  have hl := kids_len t
  have hz := size_eq t
  have hk : ∀ k ∈ t.kids, Ev tab G0 n_tree_formed_1 [avT k] [] = some ([bo (!k.formed)], []) := fun k hk => by
    have := size_kid hk
    have h1 := ih k hk (by omega)
    refine Ev_run t_tree_formed_1 rfl rfl ?_
    simp (maxSteps := 1000000) (disch := first | omega | (simp only [List.length_cons, List.length_nil, List.length_append, List.length_map, List.length_take, List.length_drop]; omega)) only [go_sem, ↓reduceIte, Nat.reduceSub, Nat.reduceAdd, Nat.reduceMul, Nat.reduceLeDiff, Nat.reduceLT, Nat.reduceEqDiff, Nat.reduceBEq, Int.reduceLE, Int.reduceLT, Int.reduceEq, Int.reduceNeg, Int.reduceAdd, Int.reduceSub, Int.reduceMul, Int.reduceToNat, i_tree_formed_1, h1]
  have h1 := ContainsA n_tree_formed_1 lt_tree_formed_1 (fun _ => ca_tree_formed_1 _) (fun k => !k.formed) t.kids (by omega) hk
  rw [formed_eq, formedL_any]
  generalize (t.kids.any fun k => !k.formed) = x at *
  by_cases hok : okT t
  · rw [decide_eq_true hok, Bool.true_and]
    refine Ev_run t_tree_formed rfl rfl ?_
    rcases hok with ⟨k0, k1, k2, k3, k4⟩ | ⟨k0, k1, k2, k3, k4⟩ | ⟨k0, k1, k2, k3⟩ | ⟨k0, k1, k2, k3⟩
    · simp (maxSteps := 1000000) (disch := first | omega | (simp only [List.length_cons, List.length_nil, List.length_append, List.length_map, List.length_take, List.length_drop]; omega)) only [go_sem, ↓reduceIte, Nat.reduceSub, Nat.reduceAdd, Nat.reduceMul, Nat.reduceLeDiff, Nat.reduceLT, Nat.reduceEqDiff, Nat.reduceBEq, Int.reduceLE, Int.reduceLT, Int.reduceEq, Int.reduceNeg, Int.reduceAdd, Int.reduceSub, Int.reduceMul, Int.reduceToNat, i_tree_formed, h1]
    · simp (maxSteps := 1000000) (disch := first | omega | (simp only [List.length_cons, List.length_nil, List.length_append, List.length_map, List.length_take, List.length_drop]; omega)) only [go_sem, ↓reduceIte, Nat.reduceSub, Nat.reduceAdd, Nat.reduceMul, Nat.reduceLeDiff, Nat.reduceLT, Nat.reduceEqDiff, Nat.reduceBEq, Int.reduceLE, Int.reduceLT, Int.reduceEq, Int.reduceNeg, Int.reduceAdd, Int.reduceSub, Int.reduceMul, Int.reduceToNat, i_tree_formed, h1]
    · simp (maxSteps := 1000000) (disch := first | omega | (simp only [List.length_cons, List.length_nil, List.length_append, List.length_map, List.length_take, List.length_drop]; omega)) only [go_sem, ↓reduceIte, Nat.reduceSub, Nat.reduceAdd, Nat.reduceMul, Nat.reduceLeDiff, Nat.reduceLT, Nat.reduceEqDiff, Nat.reduceBEq, Int.reduceLE, Int.reduceLT, Int.reduceEq, Int.reduceNeg, Int.reduceAdd, Int.reduceSub, Int.reduceMul, Int.reduceToNat, i_tree_formed, h1]
    · simp (maxSteps := 1000000) (disch := first | omega | (simp only [List.length_cons, List.length_nil, List.length_append, List.length_map, List.length_take, List.length_drop]; omega)) only [go_sem, ↓reduceIte, Nat.reduceSub, Nat.reduceAdd, Nat.reduceMul, Nat.reduceLeDiff, Nat.reduceLT, Nat.reduceEqDiff, Nat.reduceBEq, Int.reduceLE, Int.reduceLT, Int.reduceEq, Int.reduceNeg, Int.reduceAdd, Int.reduceSub, Int.reduceMul, Int.reduceToNat, i_tree_formed, h1]
  · rw [decide_eq_false hok, Bool.false_and]
    unfold okT at hok
    refine Ev_run t_tree_formed rfl rfl ?_
    by_cases k0 : t.kind = 0
    · simp (maxSteps := 1000000) (disch := first | omega | (simp only [List.length_cons, List.length_nil, List.length_append, List.length_map, List.length_take, List.length_drop]; omega)) only [go_sem, ↓reduceIte, Nat.reduceSub, Nat.reduceAdd, Nat.reduceMul, Nat.reduceLeDiff, Nat.reduceLT, Nat.reduceEqDiff, Nat.reduceBEq, Int.reduceLE, Int.reduceLT, Int.reduceEq, Int.reduceNeg, Int.reduceAdd, Int.reduceSub, Int.reduceMul, Int.reduceToNat, i_tree_formed]
    · by_cases k1 : t.kind = 1
      · by_cases c1 : t.key.length ≤ 80
        · by_cases c2 : t.value.length ≤ 1024
          · by_cases c3 : t.digest.length = 0
            · simp (maxSteps := 1000000) (disch := first | omega | (simp only [List.length_cons, List.length_nil, List.length_append, List.length_map, List.length_take, List.length_drop]; omega)) only [go_sem, ↓reduceIte, Nat.reduceSub, Nat.reduceAdd, Nat.reduceMul, Nat.reduceLeDiff, Nat.reduceLT, Nat.reduceEqDiff, Nat.reduceBEq, Int.reduceLE, Int.reduceLT, Int.reduceEq, Int.reduceNeg, Int.reduceAdd, Int.reduceSub, Int.reduceMul, Int.reduceToNat, i_tree_formed]
            · simp (maxSteps := 1000000) (disch := first | omega | (simp only [List.length_cons, List.length_nil, List.length_append, List.length_map, List.length_take, List.length_drop]; omega)) only [go_sem, ↓reduceIte, Nat.reduceSub, Nat.reduceAdd, Nat.reduceMul, Nat.reduceLeDiff, Nat.reduceLT, Nat.reduceEqDiff, Nat.reduceBEq, Int.reduceLE, Int.reduceLT, Int.reduceEq, Int.reduceNeg, Int.reduceAdd, Int.reduceSub, Int.reduceMul, Int.reduceToNat, i_tree_formed]
          · simp (maxSteps := 1000000) (disch := first | omega | (simp only [List.length_cons, List.length_nil, List.length_append, List.length_map, List.length_take, List.length_drop]; omega)) only [go_sem, ↓reduceIte, Nat.reduceSub, Nat.reduceAdd, Nat.reduceMul, Nat.reduceLeDiff, Nat.reduceLT, Nat.reduceEqDiff, Nat.reduceBEq, Int.reduceLE, Int.reduceLT, Int.reduceEq, Int.reduceNeg, Int.reduceAdd, Int.reduceSub, Int.reduceMul, Int.reduceToNat, i_tree_formed]
        · simp (maxSteps := 1000000) (disch := first | omega | (simp only [List.length_cons, List.length_nil, List.length_append, List.length_map, List.length_take, List.length_drop]; omega)) only [go_sem, ↓reduceIte, Nat.reduceSub, Nat.reduceAdd, Nat.reduceMul, Nat.reduceLeDiff, Nat.reduceLT, Nat.reduceEqDiff, Nat.reduceBEq, Int.reduceLE, Int.reduceLT, Int.reduceEq, Int.reduceNeg, Int.reduceAdd, Int.reduceSub, Int.reduceMul, Int.reduceToNat, i_tree_formed]
      · by_cases k2 : t.kind = 2
        · by_cases c1 : t.key.length ≤ 80
          · by_cases c2 : t.value.length = 0
            · simp (maxSteps := 1000000) (disch := first | omega | (simp only [List.length_cons, List.length_nil, List.length_append, List.length_map, List.length_take, List.length_drop]; omega)) only [go_sem, ↓reduceIte, Nat.reduceSub, Nat.reduceAdd, Nat.reduceMul, Nat.reduceLeDiff, Nat.reduceLT, Nat.reduceEqDiff, Nat.reduceBEq, Int.reduceLE, Int.reduceLT, Int.reduceEq, Int.reduceNeg, Int.reduceAdd, Int.reduceSub, Int.reduceMul, Int.reduceToNat, i_tree_formed]
            · simp (maxSteps := 1000000) (disch := first | omega | (simp only [List.length_cons, List.length_nil, List.length_append, List.length_map, List.length_take, List.length_drop]; omega)) only [go_sem, ↓reduceIte, Nat.reduceSub, Nat.reduceAdd, Nat.reduceMul, Nat.reduceLeDiff, Nat.reduceLT, Nat.reduceEqDiff, Nat.reduceBEq, Int.reduceLE, Int.reduceLT, Int.reduceEq, Int.reduceNeg, Int.reduceAdd, Int.reduceSub, Int.reduceMul, Int.reduceToNat, i_tree_formed]
          · simp (maxSteps := 1000000) (disch := first | omega | (simp only [List.length_cons, List.length_nil, List.length_append, List.length_map, List.length_take, List.length_drop]; omega)) only [go_sem, ↓reduceIte, Nat.reduceSub, Nat.reduceAdd, Nat.reduceMul, Nat.reduceLeDiff, Nat.reduceLT, Nat.reduceEqDiff, Nat.reduceBEq, Int.reduceLE, Int.reduceLT, Int.reduceEq, Int.reduceNeg, Int.reduceAdd, Int.reduceSub, Int.reduceMul, Int.reduceToNat, i_tree_formed]
        · by_cases k3 : t.kind = 3
          · simp (maxSteps := 1000000) (disch := first | omega | (simp only [List.length_cons, List.length_nil, List.length_append, List.length_map, List.length_take, List.length_drop]; omega)) only [go_sem, ↓reduceIte, Nat.reduceSub, Nat.reduceAdd, Nat.reduceMul, Nat.reduceLeDiff, Nat.reduceLT, Nat.reduceEqDiff, Nat.reduceBEq, Int.reduceLE, Int.reduceLT, Int.reduceEq, Int.reduceNeg, Int.reduceAdd, Int.reduceSub, Int.reduceMul, Int.reduceToNat, i_tree_formed]
          · simp (maxSteps := 1000000) (disch := first | omega | (simp only [List.length_cons, List.length_nil, List.length_append, List.length_map, List.length_take, List.length_drop]; omega)) only [go_sem, ↓reduceIte, Nat.reduceSub, Nat.reduceAdd, Nat.reduceMul, Nat.reduceLeDiff, Nat.reduceLT, Nat.reduceEqDiff, Nat.reduceBEq, Int.reduceLE, Int.reduceLT, Int.reduceEq, Int.reduceNeg, Int.reduceAdd, Int.reduceSub, Int.reduceMul, Int.reduceToNat, i_tree_formed]
/-- What is amiss. -/
def T.chk (t : T) : Int := if t.deep 64 = true then 5 else if t.formed = true then 0 else 3
theorem chk_cases (t : T) : t.chk = 0 ∨ t.chk = 3 ∨ t.chk = 5 := by unfold T.chk; split <;> (try split) <;> simp
theorem chk_formed {t : T} (h : t.chk = 0) : t.formed = true := by
  unfold T.chk at h
  split at h
  · cases h
  · split at h
    · assumption
    · cases h
theorem tree_Check_ev (t : T) (hs : t.size ≤ 1048576) : Ev tab G0 n_tree_Check [avT t] [] = some ([errV t.chk], []) := by
  have h1 := tree_deep_ev t 64 (by omega) hs
  have h2 := tree_formed_ev t hs
  refine Ev_run t_tree_Check rfl rfl ?_
  rw [T.chk, errV]
  cases hd : t.deep 64
  · rw [hd] at h1
    cases hf : t.formed
    · rw [hf] at h2
      simp (maxSteps := 1000000) (disch := first | omega | (simp only [List.length_cons, List.length_nil, List.length_append, List.length_map, List.length_take, List.length_drop]; omega)) only [go_sem, ↓reduceIte, Nat.reduceSub, Nat.reduceAdd, Nat.reduceMul, Nat.reduceLeDiff, Nat.reduceLT, Nat.reduceEqDiff, Nat.reduceBEq, Int.reduceLE, Int.reduceLT, Int.reduceEq, Int.reduceNeg, Int.reduceAdd, Int.reduceSub, Int.reduceMul, Int.reduceToNat, i_tree_Check, h1, h2]
    · rw [hf] at h2
      simp (maxSteps := 1000000) (disch := first | omega | (simp only [List.length_cons, List.length_nil, List.length_append, List.length_map, List.length_take, List.length_drop]; omega)) only [go_sem, ↓reduceIte, Nat.reduceSub, Nat.reduceAdd, Nat.reduceMul, Nat.reduceLeDiff, Nat.reduceLT, Nat.reduceEqDiff, Nat.reduceBEq, Int.reduceLE, Int.reduceLT, Int.reduceEq, Int.reduceNeg, Int.reduceAdd, Int.reduceSub, Int.reduceMul, Int.reduceToNat, i_tree_Check, h1, h2]
  · rw [hd] at h1
    simp (maxSteps := 1000000) (disch := first | omega | (simp only [List.length_cons, List.length_nil, List.length_append, List.length_map, List.length_take, List.length_drop]; omega)) only [go_sem, ↓reduceIte, Nat.reduceSub, Nat.reduceAdd, Nat.reduceMul, Nat.reduceLeDiff, Nat.reduceLT, Nat.reduceEqDiff, Nat.reduceBEq, Int.reduceLE, Int.reduceLT, Int.reduceEq, Int.reduceNeg, Int.reduceAdd, Int.reduceSub, Int.reduceMul, Int.reduceToNat, i_tree_Check, h1]
/-! ### All told? -/
theorem formed_kid {t k : T} (h : t.formed = true) (hk : k ∈ t.kids) : k.formed = true := by
  rw [formed_eq, formedL_any] at h
  simp only [Bool.and_eq_true, Bool.not_eq_true', List.any_eq_false, Bool.not_eq_true] at h
  simpa using h.2 k hk
theorem formed_kind {t : T} (h : t.formed = true) : t.kind = 0 ∨ t.kind = 1 ∨ t.kind = 2 ∨ t.kind = 3 := by
  rw [formed_eq] at h
  simp only [Bool.and_eq_true, decide_eq_true_eq] at h
  have := h.1
  unfold okT at this
  omega
theorem tree_full_ev : ∀ (t : T), t.size ≤ 1048576 → t.formed = true → Ev tab G0 n_tree_full [avT t] [] = some ([bo t.full], []) := T_ind fun t ih hs hfm => by
  have hl := kids_len t
  have hkd := formed_kind hfm
  have hk : ∀ k ∈ t.kids, Ev tab G0 n_tree_full_1 [avT k] [] = some ([bo (!k.full)], []) := fun k hk => by
    have := size_kid hk
    have h1 := ih k hk (by omega) (formed_kid hfm hk)
    refine Ev_run t_tree_full_1 rfl rfl ?_
    simp (maxSteps := 1000000) (disch := first | omega | (simp only [List.length_cons, List.length_nil, List.length_append, List.length_map, List.length_take, List.length_drop]; omega)) only [go_sem, ↓reduceIte, Nat.reduceSub, Nat.reduceAdd, Nat.reduceMul, Nat.reduceLeDiff, Nat.reduceLT, Nat.reduceEqDiff, Nat.reduceBEq, Int.reduceLE, Int.reduceLT, Int.reduceEq, Int.reduceNeg, Int.reduceAdd, Int.reduceSub, Int.reduceMul, Int.reduceToNat, i_tree_full_1, h1]
  have h1 := ContainsA n_tree_full_1 lt_tree_full_1 (fun _ => ca_tree_full_1 _) (fun k => !k.full) t.kids (by omega) hk
  rw [full_eq, fullL_any]
  generalize (t.kids.any fun k => !k.full) = x at *
  refine Ev_run t_tree_full rfl rfl ?_
  by_cases k1 : 1 < t.kind
  · rw [if_pos k1]
    by_cases k2 : t.kind = 2
    · simp (maxSteps := 1000000) (disch := first | omega | (simp only [List.length_cons, List.length_nil, List.length_append, List.length_map, List.length_take, List.length_drop]; omega)) only [go_sem, ↓reduceIte, Nat.reduceSub, Nat.reduceAdd, Nat.reduceMul, Nat.reduceLeDiff, Nat.reduceLT, Nat.reduceEqDiff, Nat.reduceBEq, Int.reduceLE, Int.reduceLT, Int.reduceEq, Int.reduceNeg, Int.reduceAdd, Int.reduceSub, Int.reduceMul, Int.reduceToNat, i_tree_full]
    · simp (maxSteps := 1000000) (disch := first | omega | (simp only [List.length_cons, List.length_nil, List.length_append, List.length_map, List.length_take, List.length_drop]; omega)) only [go_sem, ↓reduceIte, Nat.reduceSub, Nat.reduceAdd, Nat.reduceMul, Nat.reduceLeDiff, Nat.reduceLT, Nat.reduceEqDiff, Nat.reduceBEq, Int.reduceLE, Int.reduceLT, Int.reduceEq, Int.reduceNeg, Int.reduceAdd, Int.reduceSub, Int.reduceMul, Int.reduceToNat, i_tree_full]
  · rw [if_neg k1]
    simp (maxSteps := 1000000) (disch := first | omega | (simp only [List.length_cons, List.length_nil, List.length_append, List.length_map, List.length_take, List.length_drop]; omega)) only [go_sem, ↓reduceIte, Nat.reduceSub, Nat.reduceAdd, Nat.reduceMul, Nat.reduceLeDiff, Nat.reduceLT, Nat.reduceEqDiff, Nat.reduceBEq, Int.reduceLE, Int.reduceLT, Int.reduceEq, Int.reduceNeg, Int.reduceAdd, Int.reduceSub, Int.reduceMul, Int.reduceToNat, i_tree_full, h1]
theorem tree_Full_ev (t : T) (hs : t.size ≤ 1048576) : Ev tab G0 n_tree_Full [avT t] [] = some ([bo (decide (t.chk = 0) && t.full)], []) := by
  have h1 := tree_Check_ev t hs
  refine Ev_run t_tree_Full rfl rfl ?_
  by_cases hc : t.chk = 0
  · have h2 := tree_full_ev t hs (chk_formed hc)
    rw [hc, errV, if_pos rfl] at h1
    rw [decide_eq_true hc, Bool.true_and]
    simp (maxSteps := 1000000) (disch := first | omega | (simp only [List.length_cons, List.length_nil, List.length_append, List.length_map, List.length_take, List.length_drop]; omega)) only [go_sem, ↓reduceIte, Nat.reduceSub, Nat.reduceAdd, Nat.reduceMul, Nat.reduceLeDiff, Nat.reduceLT, Nat.reduceEqDiff, Nat.reduceBEq, Int.reduceLE, Int.reduceLT, Int.reduceEq, Int.reduceNeg, Int.reduceAdd, Int.reduceSub, Int.reduceMul, Int.reduceToNat, i_tree_Full, h1, h2]
  · rw [errV, if_neg hc] at h1
    rw [decide_eq_false hc, Bool.false_and]
    simp (maxSteps := 1000000) (disch := first | omega | (simp only [List.length_cons, List.length_nil, List.length_append, List.length_map, List.length_take, List.length_drop]; omega)) only [go_sem, ↓reduceIte, Nat.reduceSub, Nat.reduceAdd, Nat.reduceMul, Nat.reduceLeDiff, Nat.reduceLT, Nat.reduceEqDiff, Nat.reduceBEq, Int.reduceLE, Int.reduceLT, Int.reduceEq, Int.reduceNeg, Int.reduceAdd, Int.reduceSub, Int.reduceMul, Int.reduceToNat, i_tree_Full, h1]

end Go.Proofs.Ytfihodpdjpcpfaa
